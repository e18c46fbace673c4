/-
 A part of the proof. No condition.
-/
import Derived.Test.YtkmldgihhaooaaaGreatDoorVa
namespace Go.Proofs.YtkmldgihhaooaaaGreatDoor
open Go.Ab Go.Proofs
set_option maxRecDepth 100000
def je(n lo hi:Int):Bool:=decide (n>=lo)&&decide (n<=hi)
theorem S.aZ(n lo hi:Int):ak Tryz.prog 82 [.int n,.int lo,.int hi] (.bool (je n lo hi)):=by
 refine ak.of Bd.aZ (by simp) rfl rfl ?_
 conv=>whnf
 repeat(refine VC.mk (by first|exact id|exact fun h=>⟨h,h⟩) ?_; conv=>whnf)
 exact aj.bool rfl
theorem oN{x n:Int}:je x 0 (n-1)= !(qN x n):=by
 unfold je qN
 rw[Bool.eq_iff_iff]; simp; omega
theorem S.zF(l:Lin):ak Tryz.prog 102 [.dat (.lin l)] (.bool (Q8 l)):=by
 refine ak.of Bd.zF (by simp) rfl rfl ?_
 conv=>whnf
 refine ah.pure (S.aZ l.c (-100) 100) rfl ?_
 conv=>whnf
 repeat(refine VC.mk id ?_; conv=>whnf)
 refine ah.gJ (fun _=>S.aZ l.n (-100) 100) rfl ?_
 conv=>whnf
 repeat(refine VC.mk id ?_; conv=>whnf)
 refine ah.gJ (fun _=>S.aZ l.t (-100) 100) rfl ?_
 conv=>whnf
 repeat(refine VC.mk id ?_; conv=>whnf)
 refine ah.gJ (fun _=>S.aZ l.f (-100) 100) rfl ?_
 conv=>whnf
 refine VC.mk id ?_
 conv=>whnf
 exact aj.bool rfl
theorem S.qA(l:List Str)(s:Str)(f:Bool)(hl:l.length<2^40):ak Tryz.prog 101 [.row 0 f (.strs l),.str s] (.bool (l.any fun x=>s==x)):=by
 refine ak.of Bd.qA (by simp) rfl rfl ?_
 conv=>whnf
 refine aG.same [0,1] (fun i:Nat=>[(5,.int i)]) (fun i=>i<=l.length/\(l.take i).any (fun x=>s==x)=false) (fun i=>l.length-i) 0 rfl (by decide) rfl (fun _=>rfl) ⟨by omega,by simp⟩ ⟨⟨_,rfl,rfl⟩,trivial⟩ ?_
 conv=>whnf
 refine⟨rfl,?_⟩
 rintro i ⟨hi,hall⟩
 conv=>whnf
 refine⟨fun h3=>?_,fun h3=>?_⟩
 ·have hi':i<l.length:=by simpa using h3
  conv=>whnf
  refine .mk (by simp only[Rw.rng] at *; omega) ?_
  conv=>whnf
  refine⟨fun h4=>?_,fun h4=>?_⟩
  ·have h4':(s==l.getD i [])=true:=by rw[show(s==l.getD i [])=(l.getD i []==s) from Bool.beq_comm]; exact h4
   conv=>whnf
   exact aj.bool (nU (d:=[]) hi' h4')
  ·have h4':(s==l.getD i [])=false:=by rw[show(s==l.getD i [])=(l.getD i []==s) from Bool.beq_comm]; exact h4
   conv=>whnf
   refine .mk (by simp only[okI] at *; omega) ?_
   conv=>whnf
   refine⟨i+1,⟨by omega,?_⟩,by omega,⟨⟨_,rfl,rfl⟩,trivial⟩,?_,rfl⟩
   ·rw[qP (d:=[]) hi' hall]; exact h4'
   ·repeat' (first|exact trivial|exact⟨_,rfl,rfl⟩|constructor)
 ·have hi':l.length<=i:=by simpa using h3
  rw[List.take_of_length_le hi'] at hall
  conv=>whnf
  exact aj.bool hall
theorem S.rG:ak Tryz.prog 119 [] (.row 0 false (.strs rE)):=by
 refine ak.of Bd.rG (by simp) rfl rfl ?_
 conv=>whnf
 exact aj.row (congrArg Rw.strs (by kernel_rfl))
theorem BM(s:Str):(bs s).toList=s:=by rw[Lib.toList_data]; rfl
theorem ad5(s:Str):nmB (bs s)=(!(s.isEmpty)&& !(decide (12<(s.length:Int)))&&lH s):=by
 unfold nmB
 rw[BM,zu]; rfl
theorem Q9{c:Nat}(h:jU c=true):nameB c=true:=by unfold nameB; rw[h]; rfl
theorem Rf{s:Str}(h:s≠[]):lH s=(jU (s.getD 0 0).toNat&&s.all fun c=>nameB c.toNat):=by
 cases s with
 |nil=>exact absurd rfl h
 |cons c r =>
  simp only[lH,List.getD_cons_zero,List.all_cons]
  cases hl:jU c.toNat with
  |false=>rfl
  |true=>rw[Q9 hl]; simp
theorem FZ{α:Type}{l:List α}{p:α->Bool}{d:α}{i:Nat}(hi:i<l.length)(h:(l.take i).all p=true):(l.take (i+1)).all p=p (l.getD i d):=by
 rw[List.take_add_one,List.all_append,h,Bool.true_and]
 simp[hi]
theorem Dk{α:Type}{l:List α}{p:α->Bool}{d:α}{i:Nat}(hi:i<l.length)(h:p (l.getD i d)=false):l.all p=false:=by
 rw[Bool.eq_false_iff]; intro q
 rw[List.all_eq_true] at q
 have:=q l[i] (List.getElem_mem hi)
 rw[show l.getD i d=l[i] by simp[hi]] at h
 rw[h] at this; cases this
def u8(s:Str)(i:Nat):Nat:=(s.getD i 0).toNat
theorem aad{c:Nat}:nameB c=(decide (97<=c/\c<=122)||decide (48<=c/\c<=57)||decide (c=95)):=by
 rw[Bool.eq_iff_iff]; simp[nameB,jU]
theorem Ug{c:Nat}:jU c=decide (97<=c/\c<=122):=by
 rw[Bool.eq_iff_iff]; simp[jU]
theorem wN{n:Nat}(h:(bif false then !(je n 1 12) else !!(je n 1 12))=true):(0:Int)<n:=by
 simp only[cond_false,Bool.not_not,je,Bool.and_eq_true,decide_eq_true_eq] at h; omega
theorem wN2{n:Nat}{b:Bool}(h:(bif false then !(je n 1 12)||b else !(!(je n 1 12)||b))=true):(0:Int)<n:=by
 simp only[cond_false,Bool.not_or,Bool.not_not,je,Bool.and_eq_true,decide_eq_true_eq] at h; omega
def BX(s:Str):Bool:= !(je s.length 1 12)||decide (((s.getD 0 0).toNat:Int)<97)||decide (122<((s.getD 0 0).toNat:Int))
theorem aae(s:Str):validName s=((!(BX s)&&s.all fun c=>nameB c.toNat)&& !(rE.any fun x=>s==x)):=by
 rw[validName,ad5]
 congr 1
 cases s with
 |nil=>rfl
 |cons c r =>
  rw[Rf (by simp),Ug]
  generalize ((c::r).all fun c=>nameB c.toNat)=A
  simp only[BX,je,List.isEmpty_cons,List.length_cons,List.getD_cons_zero]
  rw[Bool.eq_iff_iff]
  simp
  cases A<;>simp<;>omega
theorem nm4{c:Nat}:(!(decide (97<=(c:Int))&&decide ((c:Int)<=122))&& !(decide (48<=(c:Int))&&decide ((c:Int)<=57))&&(c:Int) !=95)= !(nameB c):=by
 rw[aad,Bool.eq_iff_iff]; simp; omega
theorem S.kS(s:Str):ak Tryz.prog 79 [.str s] (.bool (validName s)):=by
 refine ak.of Bd.kS (by simp) rfl rfl ?_
 conv=>whnf
 refine ah.pure (S.aZ s.length 1 12) rfl ?_
 conv=>whnf
 conv=>whnf
 repeat(refine VC.mk (by first|(first|exact fun q=>⟨q,by omega,wN q⟩|exact fun q=>⟨q,by omega,wN2 q⟩)|exact fun h=>h|(intro h; rw[h]; rfl)) ?_; conv=>whnf)
 refine⟨fun h1=>?_,fun h1=>?_⟩
 ·conv=>whnf
  exact aj.bool (by rw[aae,show BX s=true from h1]; rfl)
 have hs:s.length<2^40:=by
  have h1':BX s=false:=h1
  simp only[BX,je,Bool.or_eq_false_iff,Bool.not_eq_false',Bool.and_eq_true,decide_eq_true_eq] at h1'
  omega
 conv=>whnf
 refine aG.same [0] (fun i:Nat=>[(3,.int i)]) (fun i=>i<=s.length/\(s.take i).all (fun c=>nameB c.toNat)=true) (fun i=>s.length-i) 0 rfl (by decide) rfl (fun _=>rfl) ⟨by omega,by simp⟩ ⟨⟨_,rfl,rfl⟩,trivial⟩ ?_
 conv=>whnf
 refine⟨rfl,?_⟩
 rintro i ⟨hi,hall⟩
 conv=>whnf
 refine⟨fun h3=>?_,fun h3=>?_⟩
 ·have hi':i<s.length:=by simpa using h3
  conv=>whnf
  repeat(refine VC.mk (by first|exact id|(omega)|(intro h; simp_all; done)) ?_; conv=>whnf)
  refine⟨fun h4=>?_,fun h4=>?_⟩
  ·conv=>whnf
   have h4':nameB (s.getD i 0).toNat=false:=by
    rw[nm4] at h4; simpa using h4
   exact aj.bool (by rw[aae,Dk (d:=0) hi' h4',Bool.and_false]; rfl)
  ·conv=>whnf
   refine .mk (by simp only[okI] at *; omega) ?_
   conv=>whnf
   refine⟨i+1,⟨by omega,?_⟩,by omega,⟨⟨_,rfl,rfl⟩,trivial⟩,?_,rfl⟩
   ·rw[FZ (d:=0) hi' hall]
    rw[nm4] at h4; simpa using h4
   ·repeat' (first|exact trivial|exact⟨_,rfl,rfl⟩|constructor)
 ·have hi':s.length<=i:=by simpa using h3
  rw[List.take_of_length_le hi'] at hall
  conv=>whnf
  refine ah.pure (S.rG) rfl ?_
  conv=>whnf
  refine ah.pure (S.qA rE s false (by rw[IL]; decide)) rfl ?_
  conv=>whnf
  exact aj.bool (by rw[aae,show BX s=false from h1,hall]; rfl)
theorem S.jV(l:List Int)(n:Int)(f:Bool)(hl:l.length<2^40)(hn: -2^40<n/\n<2^40):ak Tryz.prog 80 [.row 0 f (.ints l),.int n] (.int (jo l n)):=by
 refine ak.of Bd.jV (by simp) rfl rfl ?_
 conv=>whnf
 refine aG.same [0,1] (fun i:Nat=>[(5,.int i)]) (fun i=>i<=l.length/\(l.take i).any (fun i=>qN i n)=false) (fun i=>l.length-i) 0 rfl (by decide) rfl (fun _=>rfl) ⟨by omega,by simp⟩ ⟨⟨_,rfl,rfl⟩,trivial⟩ ?_
 conv=>whnf
 refine⟨rfl,?_⟩
 rintro i ⟨hi,hall⟩
 conv=>whnf
 refine⟨fun h3=>?_,fun h3=>?_⟩
 ·have hi':i<l.length:=by simpa using h3
  conv=>whnf
  repeat(refine VC.mk (by simp only[okI,Rw.rng] at *; omega) ?_; conv=>whnf)
  refine ah.pure (S.aZ (l.getD i 0) 0 (n-1)) rfl ?_
  conv=>whnf
  refine⟨fun h4=>?_,fun h4=>?_⟩
  ·have h4':qN (l.getD i 0) n=true:=by
    have:(!je (l.getD i 0) 0 (n-1))=true:=h4
    rw[oN,Bool.not_not] at this; exact this
   conv=>whnf
   refine aj.int ?_
   rw[jo,nU (d:=0) hi' h4']; rfl
  ·have h4':qN (l.getD i 0) n=false:=by
    have:(!je (l.getD i 0) 0 (n-1))=false:=h4
    rw[oN,Bool.not_not] at this; exact this
   conv=>whnf
   refine .mk (by simp only[okI] at *; omega) ?_
   conv=>whnf
   refine⟨i+1,⟨by omega,?_⟩,by omega,⟨⟨_,rfl,rfl⟩,trivial⟩,?_,rfl⟩
   ·rw[qP (d:=0) hi' hall]; exact h4'
   ·repeat' (first|exact trivial|exact⟨_,rfl,rfl⟩|constructor)
 ·have hi':l.length<=i:=by simpa using h3
  rw[List.take_of_length_le hi'] at hall
  conv=>whnf
  refine aG.same [0] (fun i:Nat=>[(6,.int (i+1))]) (fun i=>(i<l.length\/i=0)/\FC l=FC (l.drop i)) (fun i=>l.length-i) 0 rfl (by decide) rfl (fun _=>rfl) ⟨by omega,by simp⟩ ⟨⟨_,rfl,rfl⟩,trivial⟩ ?_
  conv=>whnf
  refine⟨rfl,?_⟩
  rintro i ⟨hi,hinc⟩
  conv=>whnf
  refine⟨fun h5=>?_,fun h5=>?_⟩
  ·have hi1:i+1<l.length:=by have:=of_decide_eq_true h5; omega
   rw[dB 0 (show i<l.length by omega),dB 0 hi1] at hinc
   simp only[FC] at hinc
   rw[<- dB 0 hi1] at hinc
   conv=>whnf
   repeat(refine VC.mk (by simp only[okI,Rw.rng] at *; omega) ?_; conv=>whnf)
   refine⟨fun h6=>?_,fun h6=>?_⟩
   ·have e1:((i:Int)+1).toNat=i+1:=by omega
    have e2:((i:Int)+1-1).toNat=i:=by omega
    rw[e1,e2] at h6
    have h6':l.getD (i+1) 0<=l.getD i 0:=of_decide_eq_true h6
    conv=>whnf
    refine aj.int ?_
    rw[jo,hall,hinc,decide_eq_false (by omega)]; rfl
   ·have e1:((i:Int)+1).toNat=i+1:=by omega
    have e2:((i:Int)+1-1).toNat=i:=by omega
    rw[e1,e2] at h6
    have h6': ¬ l.getD (i+1) 0<=l.getD i 0:=of_decide_eq_false h6
    conv=>whnf
    refine .mk (by simp only[okI] at *; omega) ?_
    conv=>whnf
    rw[decide_eq_true (by omega),Bool.true_and] at hinc
    refine⟨i+1,⟨by omega,hinc⟩,by omega,⟨⟨_,rfl,rfl⟩,trivial⟩,?_,rfl⟩
    repeat' (first|exact trivial|exact⟨_,rfl,rfl⟩|constructor)
  ·conv=>whnf
   refine aj.int ?_
   have h5': ¬ ((i:Int)+1<l.length):=of_decide_eq_false h5
   have:FC l=true:=by
    rw[hinc]
    rcases hd:l.drop i with _|⟨a,_|⟨b,r⟩⟩
    ·rfl
    ·rfl
    ·have:=congrArg List.length hd
     simp only[List.length_drop,List.length_cons] at this
     omega
   rw[jo,hall,this]; rfl
theorem S.wV(p:aP)(r:Rule):ak Tryz.prog 130 [.dat (.iU p),.dat (.rule r)] (.bool (lS r p.topology)):=by
 refine ak.of Bd.wV (by simp) rfl rfl ?_
 conv=>whnf
 repeat(refine VC.mk (by first|exact id|(intro h; simp_all; done)) ?_; conv=>whnf)
 refine⟨fun h1=>?_,fun h1=>?_⟩
 ·conv=>whnf
  exact aj.bool (by rw[lS]; erw [h1]; rfl)
 conv=>whnf
 repeat(refine VC.mk (by first|exact id|(intro h; simp_all; done)) ?_; conv=>whnf)
 refine⟨fun h2=>?_,fun h2=>?_⟩
 ·conv=>whnf
  exact aj.bool (by rw[lS]; erw [h1,h2]; rfl)
 conv=>whnf
 repeat(refine VC.mk (by first|exact id|(intro h; simp_all; done)) ?_; conv=>whnf)
 refine⟨fun h3=>?_,fun h3=>?_⟩
 ·conv=>whnf
  exact aj.bool (by rw[lS]; erw [h1,h2,h3]; rfl)
 conv=>whnf
 repeat(refine VC.mk (by first|exact id|(intro h; rw[h]; rfl)|(intro h; simp_all; done)) ?_; conv=>whnf)
 refine⟨fun h4=>?_,fun h4=>?_⟩
 ·conv=>whnf
  exact aj.bool (by rw[lS]; erw [h1,h2,h3,h4]; rfl)
 conv=>whnf
 repeat(refine VC.mk (by first|exact id|(intro h; simp_all; done)) ?_; conv=>whnf)
 refine⟨fun h5=>?_,fun h5=>?_⟩
 ·conv=>whnf
  exact aj.bool (by rw[lS]; erw [h1,h2,h3,h4,h5]; rfl)
 conv=>whnf
 repeat(refine VC.mk (by first|exact id|(intro h; simp_all; done)) ?_; conv=>whnf)
 exact aj.bool (by rw[lS]; erw [h1,h2,h3,h4,h5]; rfl)
theorem aaf(a b:zT):((a.message==b.message)&&(a.ER==b.ER)&&(a.bound==b.bound))=(b==a):=by
 obtain⟨m,c,l⟩:=a
 obtain⟨m',c',l'⟩:=b
 rw[Bool.eq_iff_iff]
 simp only[Bool.and_eq_true,beq_iff_eq,zT.mk.injEq]
 constructor
 ·rintro⟨⟨h1,h2⟩,h3⟩; exact⟨h1.symm,h2.symm,h3.symm⟩
 ·rintro⟨h1,h2,h3⟩; exact⟨⟨h1.symm,h2.symm⟩,h3.symm⟩
theorem S.kH(a b:zT):ak Tryz.prog 153 [.dat (.RF a),.dat (.RF b)] (.bool (b==a)):=by
 refine ak.of Bd.kH (by simp) rfl rfl ?_
 conv=>whnf
 repeat(refine VC.mk (by first|exact id|exact fun h=>⟨h,h⟩) ?_; conv=>whnf)
 exact aj.bool (aaf a b).symm
theorem S.jP(l:List zT)(g:zT)(f:Bool)(hl:l.length<2^40):ak Tryz.prog 131 [.row 7 f (.qH l),.dat (.RF g)] (.int (xQ g l 0)):=by
 refine ak.of Bd.jP (by simp) rfl rfl ?_
 conv=>whnf
 refine aG.same [0,3] (fun i:Nat=>[(5,.int i)]) (fun i=>i<=l.length/\xQ g l 0=xQ g (l.drop i) i) (fun i=>l.length-i) 0 rfl (by decide) rfl (fun _=>rfl) ⟨by omega,by simp⟩ ⟨⟨_,rfl,rfl⟩,trivial⟩ ?_
 conv=>whnf
 refine⟨rfl,?_⟩
 rintro i ⟨hi,hall⟩
 conv=>whnf
 refine⟨fun h3=>?_,fun h3=>?_⟩
 ·have hi':i<l.length:=by simpa using h3
  rw[dB default hi'] at hall
  simp only[xQ] at hall
  conv=>whnf
  refine .mk (by simp only[Rw.rng] at *; first|omega|(simp_all; done)|(simp_all; omega)) ?_
  conv=>whnf
  refine ah.pure (S.kH (l.getD i default) g) rfl ?_
  conv=>whnf
  refine⟨fun h4=>?_,fun h4=>?_⟩
  ·conv=>whnf
   refine aj.int ?_
   have h4':(g==l.getD i default)=true:=h4
   rw[hall,h4']; rfl
  ·conv=>whnf
   refine .mk (by simp only[okI] at *; first|omega|(simp_all; done)|(simp_all; omega)) ?_
   conv=>whnf
   refine⟨i+1,⟨by omega,?_⟩,by omega,⟨⟨_,rfl,rfl⟩,trivial⟩,?_,rfl⟩
   ·have h4':(g==l.getD i default)=false:=h4
    rw[hall,h4']; rfl
   ·repeat' (first|exact trivial|exact⟨_,rfl,rfl⟩|constructor)
 ·conv=>whnf
  refine aj.int ?_
  have hi':l.length<=i:=by simpa using h3
  rw[hall,List.drop_eq_nil_of_le hi']; rfl
theorem Rh{g:zT}{l:List zT}:decide (xQ g l 0<0)= !(l.any fun x=>g==x):=by
 rw[<- Ri (i:=0),Bool.eq_iff_iff]; simp
theorem S.rH(p:aP)(hp:fM p):ak Tryz.prog 104 [.dat (.iU p)] (.row 7 false (.qH (yX p.rules))):=by
 have hp1:=hp.rules
 refine ak.of Bd.rH (by simp) rfl rfl ?_
 conv=>whnf
 refine aG.nil 3 148 7 (by rfl) rfl rfl rfl ?_
 refine aG.objs 2 [1] (fun i:Nat=>[(4,.int i),(3,.own 1)]) (fun i=>[(0,.box 27 11 (.dat (.iU p))),(1,rowT (yX (p.rules.take i)))]) (fun i=>i<=p.rules.length) (fun i=>p.rules.length-i) 0 [0,4] rfl (by decide) (fun _=>rfl) (Nat.zero_le _) ?_ ?_ ?_
 ·exact(sR rfl)
 ·exact⟨⟨rfl,nofun,rfl,rfl,rfl,_,rfl,rfl,rfl,aI.of_eq rfl⟩,⟨rfl,nofun,rfl,rfl,rfl,_,rfl,rfl,rfl,aI.of_eq rfl⟩,trivial⟩
 conv=>whnf
 refine⟨(sR rfl),rfl,?_⟩
 rintro i hi
 conv=>whnf
 refine⟨fun h3=>?_,fun h3=>?_⟩
 ·have hi':i<p.rules.length:=by simpa using h3
  conv=>whnf
  refine aG.objs 2 [1,4] (fun k:Nat=>[(5,.int k),(3,.own 1)]) (fun k=>[(0,.box 27 11 (.dat (.iU p))),(1,rowT (yY p i k))]) (fun k=>k<=(p.rules.getD i default).guards.length) (fun k=>(p.rules.getD i default).guards.length-k) 0 [0,1] rfl (by decide) (fun _=>rfl) (Nat.zero_le _) ?_ ?_ ?_
  ·exact(sR rfl)
  ·exact⟨⟨rfl,nofun,rfl,rfl,rfl,_,rfl,rfl,rfl,aI.of_eq rfl⟩,⟨rfl,nofun,rfl,rfl,rfl,_,rfl,rfl,rfl,aI.of_eq rfl⟩,trivial⟩
  conv=>whnf
  refine⟨(sR rfl),rfl,?_⟩
  rintro k hk
  have hacc:=Rj p hp i k hi'
  have hg:=(hp.rule i).guards
  conv=>whnf
  refine .mk (by simp only[Rw.rng] at *; first|omega|(simp_all; done)|(simp_all; omega)) ?_
  conv=>whnf
  refine⟨fun h4=>?_,fun h4=>?_⟩
  ·have hk':k<(p.rules.getD i default).guards.length:=by simpa using h4
   have hst:yY p i (k+1)=Ih (yY p i k) ((p.rules.getD i default).guards.getD k default):=Bh hk'
   conv=>whnf
   repeat(refine VC.mk (by simp only[Rw.rng] at *; first|omega|(simp_all; done)|(simp_all; omega)) ?_; conv=>whnf)
   refine ah.lend (S.jP (yY p i k) ((p.rules.getD i default).guards.getD k default) false (by omega)) (And.intro (aag trivial rfl) (And.intro (aH _) trivial)) rfl rfl ?_
   conv=>whnf
   refine⟨fun h5=>?_,fun h5=>?_⟩
   ·conv=>whnf
    repeat(refine VC.mk (by first|(show((yY p i k).length+(0+1))*48<=140737488355328/\(yY p i k).length+(0+1)<=1152921504606846976; omega)|(simp only[okI] at *; first|omega|(simp_all; done)|(simp_all; omega))) ?_; conv=>whnf)
    have h5':((yY p i k).any fun x=>(p.rules.getD i default).guards.getD k default==x)=false:=by rw[Rh] at h5; simpa using h5
    refine⟨k+1,[0,29],by omega,by omega,(sR rfl),(sR rfl),⟨rfl,nofun,rfl,rfl,rfl,_,rfl,rfl,rfl,aI.of_eq rfl⟩,⟨rfl,nofun,rfl,rfl,rfl,_,rfl,rfl,rfl,aI.of_eq ?_⟩,trivial⟩
    rw[hst,Ih,h5']; rfl
   ·conv=>whnf
    refine .mk (by simp only[okI] at *; first|omega|(simp_all; done)|(simp_all; omega)) ?_
    conv=>whnf
    have h5':((yY p i k).any fun x=>(p.rules.getD i default).guards.getD k default==x)=true:=by rw[Rh] at h5; simpa using h5
    refine⟨k+1,[0,1],by omega,by omega,(sR rfl),(sR rfl),⟨rfl,nofun,rfl,rfl,rfl,_,rfl,rfl,rfl,aI.of_eq rfl⟩,⟨rfl,nofun,rfl,rfl,rfl,_,rfl,rfl,rfl,aI.of_eq ?_⟩,trivial⟩
    rw[hst,Ih,h5']; rfl
  ·have hk':(p.rules.getD i default).guards.length<=k:=by simpa using h4
   have e:k=(p.rules.getD i default).guards.length:=Nat.le_antisymm hk hk'
   subst e
   conv=>whnf
   refine .mk (by simp only[okI] at *; first|omega|(simp_all; done)|(simp_all; omega)) ?_
   conv=>whnf
   refine⟨i+1,[0,1],by omega,by omega,(sR rfl),(sR rfl),⟨rfl,nofun,rfl,rfl,rfl,_,rfl,rfl,rfl,aI.of_eq rfl⟩,⟨rfl,nofun,rfl,rfl,rfl,_,rfl,rfl,rfl,aI.of_eq ?_⟩,trivial⟩
   rw[Nl p hi']
 ·have hi':p.rules.length<=i:=by simpa using h3
  rw[List.take_of_length_le hi']
  conv=>whnf
  exact aj.afl rfl
def zQ(p:aP)(r:Rule):Bool:=(r.read != -1&& !(je r.read 0 (p.values.length-1)))||(r.write != -1&& !(je r.write 0 (p.values.length-1)))
def DY(p:aP)(r:Rule):Bool:=(r.kind==4)&&(!(je r.pos 0 2)||(r.pos !=0&&p.topology==3))
def DZ(p:aP)(r:Rule):Bool:=((r.kind==5)&&(p.topology==4))&& !(je r.direction 3 4)
def D5(p:aP)(r:Rule):Bool:=((r.kind==5)&&(p.topology !=4))&& !(je r.direction 1 2)
def iq(p:aP)(r:Rule):Int :=
 let n:Int:=p.states.length
 bH [jW p r.guards,dM (decide ((r.guards.length:Int)>2)) 4,jo r.ex n,jo r.all n,dM (zQ p r) 5,jo r.send p.messages.length,jo r.left n,jo r.right n,jo r.parent n,dM (DY p r) 1,dM (DZ p r) 1,dM (D5 p r) 1]
def H8(p:aP)(r:Rule):Bool :=
 let n:Int:=p.states.length
 (!(je r.fr 0 (n-1))|| !(je r.to 0 (n-1)))||((r.kind==2||r.kind==5)&&(!(je r.dS 0 (n-1))|| !(je r.wX 0 (n-1))))
def H9(p:aP)(r:Rule):Bool:=(!(je r.kind 1 5)||(decide (r.kind<=3) !=(p.topology==1)))||lS r p.topology
def yZ(p:aP)(i:Nat):Int :=
 let r:=p.rules.getD i default
 bif !(validName r.name) then 2 else bif (p.rules.take i).any (fun x=>x.name==r.name) then 2 else bif H9 p r then 6 else bif H8 p r then 5 else
 bif r.kind==3 then(bif (r.response.length:Int) !=p.states.length then 1 else bif pI r.response p.states.length !=0 then pI r.response p.states.length else iq p r) else iq p r
theorem qE{n lo hi:Int}:(!(je n lo hi))=(decide (n<lo)||decide (n>hi)):=by
 unfold je; rw[Bool.eq_iff_iff]; simp
theorem RJ{a b:Int}(h:(a !=b)=false):a=b:=by simpa using h
theorem XP{v:Int}{r:List Int}:bH (dM false v::r)=bH r:=rfl
theorem f0{r:List Int}:bH (0::r)=bH r:=rfl
theorem fN{x:Int}{r:List Int}(h:x≠0):bH (x::r)=x:=if_neg h
set_option maxHeartbeats 1000000 in
theorem S.Bj(p:aP)(i:Nat)(hi:i<p.rules.length)(hp:fM p):ak Tryz.prog 103 [.dat (.iU p),.int i] (.int (yZ p i)):=by
 have hr:=hp.rule i
 have hp1:=hp.rules
 have hp2:=hp.states
 have hp3:=hp.messages
 have hp4:=hp.values
 refine ak.of Bd.Bj (by simp) rfl rfl ?_
 conv=>whnf
 refine .mk (by simp only[Rw.rng] at *; first|omega|(simp_all; done)|(simp_all; omega)) ?_
 conv=>whnf
 refine ah.pure (S.kS (p.rules.getD i default).name) rfl ?_
 conv=>whnf
 refine⟨fun h1=>?_,fun h1=>?_⟩
 ·conv=>whnf
  exact aj.int (by rw[yZ,h1]; rfl)
 conv=>whnf
 refine aG.same [1,2,5,6] (fun j:Nat=>[(7,.int j)]) (fun j=>j<=i/\(p.rules.take j).any (fun x=>x.name==(p.rules.getD i default).name)=false) (fun j=>i-j) 0 rfl (by decide) rfl (fun _=>rfl) ⟨by omega,by simp⟩ ⟨⟨_,rfl,rfl⟩,trivial⟩ ?_
 conv=>whnf
 refine⟨rfl,?_⟩
 rintro j ⟨hj,hall⟩
 conv=>whnf
 refine⟨fun h2=>?_,fun h2=>?_⟩
 ·have hj':j<i:=by simpa using h2
  have hj2:j<p.rules.length:=by omega
  conv=>whnf
  refine .mk (by simp only[Rw.rng] at *; first|omega|(simp_all; done)|(simp_all; omega)) ?_
  conv=>whnf
  refine⟨fun h3=>?_,fun h3=>?_⟩
  ·conv=>whnf
   have hb:(p.rules.take i).any (fun x=>x.name==(p.rules.getD i default).name)=true:=by
    rw[List.any_eq_true]
    refine⟨p.rules.getD j default,?_,h3⟩
    rw[show p.rules.getD j default=p.rules[j] by simp[hj2],List.mem_take_iff_getElem]
    exact⟨j,by omega,rfl⟩
   exact aj.int (by rw[yZ,h1,hb]; rfl)
  ·conv=>whnf
   refine .mk (by simp only[okI] at *; first|omega|(simp_all; done)|(simp_all; omega)) ?_
   conv=>whnf
   refine⟨j+1,⟨by omega,?_⟩,by omega,⟨⟨_,rfl,rfl⟩,trivial⟩,?_,rfl⟩
   ·rw[qP (d:=default) hj2 hall]; exact h3
   ·repeat' (first|exact trivial|exact⟨_,rfl,rfl⟩|constructor)
 have hj':i<=j:=by simpa using h2
 have e:i=j:=Nat.le_antisymm hj' hj
 subst e
 conv=>whnf
 refine ah.pure (S.aZ (p.rules.getD i default).kind 1 5) rfl ?_
 conv=>whnf
 repeat(refine VC.mk (by first|exact id|exact fun h=>⟨h,h⟩|(intro h; rw[h]; rfl)) ?_; conv=>whnf)
 refine ah.gJ (fun _=>S.wV p (p.rules.getD i default)) rfl ?_
 conv=>whnf
 refine .mk (by intro h; rw[h]; rfl) ?_
 conv=>whnf
 refine⟨fun h4=>?_,fun h4=>?_⟩
 ·conv=>whnf
  exact aj.int (by rw[yZ,h1,hall,show H9 p (p.rules.getD i default)=true from h4]; rfl)
 conv=>whnf
 repeat(refine VC.mk (by first|exact id|(intro h; rw[h]; rfl)|(simp only[okI] at *; first|omega|(simp_all; done)|(simp_all; omega))) ?_; conv=>whnf)
 refine ah.pure (S.aZ (p.rules.getD i default).fr 0 (p.states.length-1)) rfl ?_
 conv=>whnf
 repeat(refine VC.mk (by first|exact id|exact fun h=>⟨h,h⟩|(intro h; (repeat' apply And.intro)<;>first|exact h|omega|(simp only[Rw.rP]; omega)|(simp only[Rw.rng]; omega))) ?_; conv=>whnf)
 refine ah.gJ (fun _=>S.aZ (p.rules.getD i default).to 0 (p.states.length-1)) rfl ?_
 conv=>whnf
 repeat(refine VC.mk (by first|exact id|exact fun h=>⟨h,h⟩|(intro h; rw[h]; rfl)|(intro h; (repeat' apply And.intro)<;>first|exact h|omega|(simp only[Rw.rP]; omega)|(simp only[Rw.rng]; omega))) ?_; conv=>whnf)
 refine ah.gJ (fun _=>S.aZ (p.rules.getD i default).dS 0 (p.states.length-1)) rfl ?_
 conv=>whnf
 repeat(refine VC.mk (by first|exact id|exact fun h=>⟨h,h⟩|(intro h; (repeat' apply And.intro)<;>first|exact h|omega|(simp only[Rw.rP]; omega)|(simp only[Rw.rng]; omega))) ?_; conv=>whnf)
 refine ah.gJ (fun _=>S.aZ (p.rules.getD i default).wX 0 (p.states.length-1)) rfl ?_
 conv=>whnf
 repeat(refine VC.mk (by first|exact id|(intro h; rw[h]; rfl)|(intro h; simp_all; done)) ?_; conv=>whnf)
 refine⟨fun h5=>?_,fun h5=>?_⟩
 ·conv=>whnf
  exact aj.int (by rw[yZ,h1,hall,show H9 p (p.rules.getD i default)=false from h4,show H8 p (p.rules.getD i default)=true from h5]; rfl)
 conv=>whnf
 refine⟨fun h6=>?_,fun h6=>?_⟩
 ·replace h6:((p.rules.getD i default).kind==3)=true:=h6
  conv=>whnf
  refine⟨fun h7=>?_,fun h7=>?_⟩
  ·replace h7:(((p.rules.getD i default).response.length:Int) !=p.states.length)=true:=h7
   conv=>whnf
   exact aj.int (by rw[yZ,h1,hall,show H9 p (p.rules.getD i default)=false from h4,show H8 p (p.rules.getD i default)=false from h5,h6,h7]; rfl)
  replace h7:(((p.rules.getD i default).response.length:Int) !=p.states.length)=false:=h7
  have hn:(p.rules.getD i default).response.length=p.states.length:=by
   have:((p.rules.getD i default).response.length:Int)=p.states.length:=RJ h7
   omega
  conv=>whnf
  refine aG.same [2,5,6] (fun k:Nat=>[(9,.int k)]) (fun k=>k<=p.states.length/\pI (p.rules.getD i default).response p.states.length=pI ((p.rules.getD i default).response.drop k) p.states.length) (fun k=>p.states.length-k) 0 rfl (by decide) rfl (fun _=>rfl) ⟨by omega,by simp⟩ ⟨⟨_,rfl,rfl⟩,trivial⟩ ?_
  conv=>whnf
  refine⟨rfl,?_⟩
  rintro k ⟨hk,hg⟩
  conv=>whnf
  refine⟨fun g1=>?_,fun g1=>?_⟩
  ·have hk':k<(p.rules.getD i default).response.length:=by rw[hn]; simpa using g1
   rw[dB 0 hk'] at hg
   simp only[pI] at hg
   conv=>whnf
   repeat(refine VC.mk (by simp only[okI,Rw.rng] at *; first|omega|(simp_all; done)|(simp_all; omega)) ?_; conv=>whnf)
   refine ah.pure (S.aZ ((p.rules.getD i default).response.getD k 0) 0 (p.states.length-1)) rfl ?_
   conv=>whnf
   refine⟨fun g2=>?_,fun g2=>?_⟩
   ·rw[oN,Bool.not_not] at g2
    have e:dh ((p.rules.getD i default).response.getD k 0) p.states.length=5:=by rw[dh,g2]; rfl
    rw[e,if_neg (by decide)] at hg
    conv=>whnf
    exact aj.int (by rw[yZ,h1,hall,show H9 p (p.rules.getD i default)=false from h4,show H8 p (p.rules.getD i default)=false from h5,h6,h7,hg]; rfl)
   rw[oN,Bool.not_not] at g2
   have e:dh ((p.rules.getD i default).response.getD k 0) p.states.length=0:=by rw[dh,g2]; rfl
   rw[if_pos e] at hg
   conv=>whnf
   refine .mk (by simp only[okI] at *; first|omega|(simp_all; done)|(simp_all; omega)) ?_
   conv=>whnf
   refine⟨k+1,⟨by omega,hg⟩,by omega,⟨⟨_,rfl,rfl⟩,trivial⟩,?_,rfl⟩
   repeat' (first|exact trivial|exact⟨_,rfl,rfl⟩|constructor)
  have hk':(p.rules.getD i default).response.length<=k:=by rw[hn]; simpa using g1
  rw[List.drop_eq_nil_of_le hk'] at hg
  replace hg:pI (p.rules.getD i default).response p.states.length=0:=hg
  have hR:yZ p i=iq p (p.rules.getD i default):=by
   rw[yZ,h1,hall,show H9 p (p.rules.getD i default)=false from h4,show H8 p (p.rules.getD i default)=false from h5,h6,h7,hg]; rfl
  clear hg g1 hk' hk
  conv=>whnf
  refine aG.same [2,5,6] (fun k:Nat=>[(10,.int k)]) (fun k=>k<=(p.rules.getD i default).guards.length/\jW p (p.rules.getD i default).guards=jW p ((p.rules.getD i default).guards.drop k)) (fun k=>(p.rules.getD i default).guards.length-k) 0 rfl (by decide) rfl (fun _=>rfl) ⟨by omega,by simp⟩ ⟨⟨_,rfl,rfl⟩,trivial⟩ ?_
  conv=>whnf
  refine⟨rfl,?_⟩
  rintro k ⟨hk,hg⟩
  have hgl:=hr.guards
  conv=>whnf
  refine⟨fun g1=>?_,fun g1=>?_⟩
  ·have hk':k<(p.rules.getD i default).guards.length:=by simpa using g1
   rw[dB default hk'] at hg
   simp only[jW] at hg
   conv=>whnf
   repeat(refine VC.mk (by simp only[okI,Rw.rng] at *; first|omega|(simp_all; done)|(simp_all; omega)) ?_; conv=>whnf)
   refine ah.pure (S.aZ ((p.rules.getD i default).guards.getD k default).message 0 (p.messages.length-1)) rfl ?_
   conv=>whnf
   refine⟨fun g2=>?_,fun g2=>?_⟩
   ·rw[oN,Bool.not_not] at g2
    have e:guardE p ((p.rules.getD i default).guards.getD k default)=5:=by rw[guardE,dh,g2]; rfl
    rw[e,if_neg (by decide)] at hg
    conv=>whnf
    exact aj.int (by rw[hR,iq,hg]; rfl)
   rw[oN,Bool.not_not] at g2
   conv=>whnf
   refine ah.pure (S.aZ ((p.rules.getD i default).guards.getD k default).ER 1 100) rfl ?_
   conv=>whnf
   refine⟨fun g3=>?_,fun g3=>?_⟩
   ·rw[qE] at g3
    have e:guardE p ((p.rules.getD i default).guards.getD k default)=1:=by rw[guardE,dh,g2,g3]; rfl
    rw[e,if_neg (by decide)] at hg
    conv=>whnf
    exact aj.int (by rw[hR,iq,hg]; rfl)
   rw[qE] at g3
   conv=>whnf
   refine ah.pure (S.zF ((p.rules.getD i default).guards.getD k default).bound) rfl ?_
   conv=>whnf
   refine⟨fun g4=>?_,fun g4=>?_⟩
   ·have e:guardE p ((p.rules.getD i default).guards.getD k default)=4:=by rw[guardE,dh,g2,g3,g4]; rfl
    rw[e,if_neg (by decide)] at hg
    conv=>whnf
    exact aj.int (by rw[hR,iq,hg]; rfl)
   have e:guardE p ((p.rules.getD i default).guards.getD k default)=0:=by rw[guardE,dh,g2,g3,g4]; rfl
   rw[if_pos e] at hg
   conv=>whnf
   refine .mk (by simp only[okI] at *; first|omega|(simp_all; done)|(simp_all; omega)) ?_
   conv=>whnf
   refine⟨k+1,⟨by omega,hg⟩,by omega,⟨⟨_,rfl,rfl⟩,trivial⟩,?_,rfl⟩
   repeat' (first|exact trivial|exact⟨_,rfl,rfl⟩|constructor)
  have hk':(p.rules.getD i default).guards.length<=k:=by simpa using g1
  rw[List.drop_eq_nil_of_le hk'] at hg
  replace hg:jW p (p.rules.getD i default).guards=0:=hg
  conv=>whnf
  refine⟨fun c1=>?_,fun c1=>?_⟩
  ·replace c1:decide (((p.rules.getD i default).guards.length:Int)>2)=true:=c1
   conv=>whnf
   exact aj.int (by rw[hR,iq,hg,c1]; rfl)
  replace c1:decide (((p.rules.getD i default).guards.length:Int)>2)=false:=c1
  conv=>whnf
  refine ah.pure (S.jV (p.rules.getD i default).ex p.states.length false (by have:=hr.ex; omega) ⟨by omega,by omega⟩) rfl ?_
  conv=>whnf
  refine⟨fun c2=>?_,fun c2=>?_⟩
  ·conv=>whnf
   exact aj.int (by rw[hR,iq,hg,c1]; simp only[XP,f0,fN (Rk c2)])
  replace c2:=Ce c2
  conv=>whnf
  refine ah.pure (S.jV (p.rules.getD i default).all p.states.length false (by have:=hr.all; omega) ⟨by omega,by omega⟩) rfl ?_
  conv=>whnf
  refine⟨fun c3=>?_,fun c3=>?_⟩
  ·conv=>whnf
   exact aj.int (by rw[hR,iq,hg,c1,c2]; simp only[XP,f0,fN (Rk c3)])
  replace c3:=Ce c3
  conv=>whnf
  repeat(refine VC.mk (by first|exact id|exact fun h=>⟨h,h⟩|(intro h; (repeat' apply And.intro)<;>first|exact h|omega|(simp only[Rw.rP]; omega)|(simp only[Rw.rng]; omega))) ?_; conv=>whnf)
  refine ah.gJ (fun _=>S.aZ (p.rules.getD i default).read 0 (p.values.length-1)) rfl ?_
  conv=>whnf
  repeat(refine VC.mk (by first|exact id|exact fun h=>⟨h,h⟩|(intro h; (repeat' apply And.intro)<;>first|exact h|omega|(simp only[Rw.rP]; omega)|(simp only[Rw.rng]; omega))) ?_; conv=>whnf)
  refine ah.gJ (fun _=>S.aZ (p.rules.getD i default).write 0 (p.values.length-1)) rfl ?_
  conv=>whnf
  repeat(refine VC.mk (by first|exact id|(intro h; rw[h]; rfl)|(intro h; simp_all; done)) ?_; conv=>whnf)
  refine⟨fun c4=>?_,fun c4=>?_⟩
  ·conv=>whnf
   exact aj.int (by rw[hR,iq,hg,c1,c2,c3,show zQ p (p.rules.getD i default)=true from c4]; rfl)
  replace c4:zQ p (p.rules.getD i default)=false:=c4
  conv=>whnf
  refine ah.pure (S.jV (p.rules.getD i default).send p.messages.length false (by have:=hr.send; omega) ⟨by omega,by omega⟩) rfl ?_
  conv=>whnf
  refine⟨fun c5=>?_,fun c5=>?_⟩
  ·conv=>whnf
   exact aj.int (by rw[hR,iq,hg,c1,c2,c3,c4]; simp only[XP,f0,fN (Rk c5)])
  replace c5:=Ce c5
  conv=>whnf
  refine ah.pure (S.jV (p.rules.getD i default).left p.states.length false (by have:=hr.left; omega) ⟨by omega,by omega⟩) rfl ?_
  conv=>whnf
  refine⟨fun c6=>?_,fun c6=>?_⟩
  ·conv=>whnf
   exact aj.int (by rw[hR,iq,hg,c1,c2,c3,c4,c5]; simp only[XP,f0,fN (Rk c6)])
  replace c6:=Ce c6
  conv=>whnf
  refine ah.pure (S.jV (p.rules.getD i default).right p.states.length false (by have:=hr.right; omega) ⟨by omega,by omega⟩) rfl ?_
  conv=>whnf
  refine⟨fun c7=>?_,fun c7=>?_⟩
  ·conv=>whnf
   exact aj.int (by rw[hR,iq,hg,c1,c2,c3,c4,c5,c6]; simp only[XP,f0,fN (Rk c7)])
  replace c7:=Ce c7
  conv=>whnf
  refine ah.pure (S.jV (p.rules.getD i default).parent p.states.length false (by have:=hr.parent; omega) ⟨by omega,by omega⟩) rfl ?_
  conv=>whnf
  refine⟨fun c8=>?_,fun c8=>?_⟩
  ·conv=>whnf
   exact aj.int (by rw[hR,iq,hg,c1,c2,c3,c4,c5,c6,c7]; simp only[XP,f0,fN (Rk c8)])
  replace c8:=Ce c8
  conv=>whnf
  repeat(refine VC.mk id ?_; conv=>whnf)
  refine ah.gJ (fun _=>S.aZ (p.rules.getD i default).pos 0 2) rfl ?_
  conv=>whnf
  repeat(refine VC.mk (by first|exact id|(intro h; simp_all; done)) ?_; conv=>whnf)
  refine⟨fun c9=>?_,fun c9=>?_⟩
  ·conv=>whnf
   exact aj.int (by rw[hR,iq,hg,c1,c2,c3,c4,c5,c6,c7,c8,show DY p (p.rules.getD i default)=true from c9]; rfl)
  replace c9:DY p (p.rules.getD i default)=false:=c9
  conv=>whnf
  repeat(refine VC.mk id ?_; conv=>whnf)
  refine ah.gJ (fun _=>S.aZ (p.rules.getD i default).direction 3 4) rfl ?_
  conv=>whnf
  repeat(refine VC.mk id ?_; conv=>whnf)
  refine⟨fun c10=>?_,fun c10=>?_⟩
  ·conv=>whnf
   exact aj.int (by rw[hR,iq,hg,c1,c2,c3,c4,c5,c6,c7,c8,c9,show DZ p (p.rules.getD i default)=true from c10]; rfl)
  replace c10:DZ p (p.rules.getD i default)=false:=c10
  conv=>whnf
  repeat(refine VC.mk id ?_; conv=>whnf)
  refine ah.gJ (fun _=>S.aZ (p.rules.getD i default).direction 1 2) rfl ?_
  conv=>whnf
  repeat(refine VC.mk id ?_; conv=>whnf)
  refine⟨fun c11=>?_,fun c11=>?_⟩
  ·conv=>whnf
   exact aj.int (by rw[hR,iq,hg,c1,c2,c3,c4,c5,c6,c7,c8,c9,c10,show D5 p (p.rules.getD i default)=true from c11]; rfl)
  replace c11:D5 p (p.rules.getD i default)=false:=c11
  conv=>whnf
  exact aj.int (by rw[hR,iq,hg,c1,c2,c3,c4,c5,c6,c7,c8,c9,c10,c11]; rfl)
 ·replace h6:((p.rules.getD i default).kind==3)=false:=h6
  have hR:yZ p i=iq p (p.rules.getD i default):=by
   rw[yZ,h1,hall,show H9 p (p.rules.getD i default)=false from h4,show H8 p (p.rules.getD i default)=false from h5,h6]; rfl
  conv=>whnf
  refine aG.same [2,5,6] (fun k:Nat=>[(10,.int k)]) (fun k=>k<=(p.rules.getD i default).guards.length/\jW p (p.rules.getD i default).guards=jW p ((p.rules.getD i default).guards.drop k)) (fun k=>(p.rules.getD i default).guards.length-k) 0 rfl (by decide) rfl (fun _=>rfl) ⟨by omega,by simp⟩ ⟨⟨_,rfl,rfl⟩,trivial⟩ ?_
  conv=>whnf
  refine⟨rfl,?_⟩
  rintro k ⟨hk,hg⟩
  have hgl:=hr.guards
  conv=>whnf
  refine⟨fun g1=>?_,fun g1=>?_⟩
  ·have hk':k<(p.rules.getD i default).guards.length:=by simpa using g1
   rw[dB default hk'] at hg
   simp only[jW] at hg
   conv=>whnf
   repeat(refine VC.mk (by simp only[okI,Rw.rng] at *; first|omega|(simp_all; done)|(simp_all; omega)) ?_; conv=>whnf)
   refine ah.pure (S.aZ ((p.rules.getD i default).guards.getD k default).message 0 (p.messages.length-1)) rfl ?_
   conv=>whnf
   refine⟨fun g2=>?_,fun g2=>?_⟩
   ·rw[oN,Bool.not_not] at g2
    have e:guardE p ((p.rules.getD i default).guards.getD k default)=5:=by rw[guardE,dh,g2]; rfl
    rw[e,if_neg (by decide)] at hg
    conv=>whnf
    exact aj.int (by rw[hR,iq,hg]; rfl)
   rw[oN,Bool.not_not] at g2
   conv=>whnf
   refine ah.pure (S.aZ ((p.rules.getD i default).guards.getD k default).ER 1 100) rfl ?_
   conv=>whnf
   refine⟨fun g3=>?_,fun g3=>?_⟩
   ·rw[qE] at g3
    have e:guardE p ((p.rules.getD i default).guards.getD k default)=1:=by rw[guardE,dh,g2,g3]; rfl
    rw[e,if_neg (by decide)] at hg
    conv=>whnf
    exact aj.int (by rw[hR,iq,hg]; rfl)
   rw[qE] at g3
   conv=>whnf
   refine ah.pure (S.zF ((p.rules.getD i default).guards.getD k default).bound) rfl ?_
   conv=>whnf
   refine⟨fun g4=>?_,fun g4=>?_⟩
   ·have e:guardE p ((p.rules.getD i default).guards.getD k default)=4:=by rw[guardE,dh,g2,g3,g4]; rfl
    rw[e,if_neg (by decide)] at hg
    conv=>whnf
    exact aj.int (by rw[hR,iq,hg]; rfl)
   have e:guardE p ((p.rules.getD i default).guards.getD k default)=0:=by rw[guardE,dh,g2,g3,g4]; rfl
   rw[if_pos e] at hg
   conv=>whnf
   refine .mk (by simp only[okI] at *; first|omega|(simp_all; done)|(simp_all; omega)) ?_
   conv=>whnf
   refine⟨k+1,⟨by omega,hg⟩,by omega,⟨⟨_,rfl,rfl⟩,trivial⟩,?_,rfl⟩
   repeat' (first|exact trivial|exact⟨_,rfl,rfl⟩|constructor)
  have hk':(p.rules.getD i default).guards.length<=k:=by simpa using g1
  rw[List.drop_eq_nil_of_le hk'] at hg
  replace hg:jW p (p.rules.getD i default).guards=0:=hg
  conv=>whnf
  refine⟨fun c1=>?_,fun c1=>?_⟩
  ·replace c1:decide (((p.rules.getD i default).guards.length:Int)>2)=true:=c1
   conv=>whnf
   exact aj.int (by rw[hR,iq,hg,c1]; rfl)
  replace c1:decide (((p.rules.getD i default).guards.length:Int)>2)=false:=c1
  conv=>whnf
  refine ah.pure (S.jV (p.rules.getD i default).ex p.states.length false (by have:=hr.ex; omega) ⟨by omega,by omega⟩) rfl ?_
  conv=>whnf
  refine⟨fun c2=>?_,fun c2=>?_⟩
  ·conv=>whnf
   exact aj.int (by rw[hR,iq,hg,c1]; simp only[XP,f0,fN (Rk c2)])
  replace c2:=Ce c2
  conv=>whnf
  refine ah.pure (S.jV (p.rules.getD i default).all p.states.length false (by have:=hr.all; omega) ⟨by omega,by omega⟩) rfl ?_
  conv=>whnf
  refine⟨fun c3=>?_,fun c3=>?_⟩
  ·conv=>whnf
   exact aj.int (by rw[hR,iq,hg,c1,c2]; simp only[XP,f0,fN (Rk c3)])
  replace c3:=Ce c3
  conv=>whnf
  repeat(refine VC.mk (by first|exact id|exact fun h=>⟨h,h⟩|(intro h; (repeat' apply And.intro)<;>first|exact h|omega|(simp only[Rw.rP]; omega)|(simp only[Rw.rng]; omega))) ?_; conv=>whnf)
  refine ah.gJ (fun _=>S.aZ (p.rules.getD i default).read 0 (p.values.length-1)) rfl ?_
  conv=>whnf
  repeat(refine VC.mk (by first|exact id|exact fun h=>⟨h,h⟩|(intro h; (repeat' apply And.intro)<;>first|exact h|omega|(simp only[Rw.rP]; omega)|(simp only[Rw.rng]; omega))) ?_; conv=>whnf)
  refine ah.gJ (fun _=>S.aZ (p.rules.getD i default).write 0 (p.values.length-1)) rfl ?_
  conv=>whnf
  repeat(refine VC.mk (by first|exact id|(intro h; rw[h]; rfl)|(intro h; simp_all; done)) ?_; conv=>whnf)
  refine⟨fun c4=>?_,fun c4=>?_⟩
  ·conv=>whnf
   exact aj.int (by rw[hR,iq,hg,c1,c2,c3,show zQ p (p.rules.getD i default)=true from c4]; rfl)
  replace c4:zQ p (p.rules.getD i default)=false:=c4
  conv=>whnf
  refine ah.pure (S.jV (p.rules.getD i default).send p.messages.length false (by have:=hr.send; omega) ⟨by omega,by omega⟩) rfl ?_
  conv=>whnf
  refine⟨fun c5=>?_,fun c5=>?_⟩
  ·conv=>whnf
   exact aj.int (by rw[hR,iq,hg,c1,c2,c3,c4]; simp only[XP,f0,fN (Rk c5)])
  replace c5:=Ce c5
  conv=>whnf
  refine ah.pure (S.jV (p.rules.getD i default).left p.states.length false (by have:=hr.left; omega) ⟨by omega,by omega⟩) rfl ?_
  conv=>whnf
  refine⟨fun c6=>?_,fun c6=>?_⟩
  ·conv=>whnf
   exact aj.int (by rw[hR,iq,hg,c1,c2,c3,c4,c5]; simp only[XP,f0,fN (Rk c6)])
  replace c6:=Ce c6
  conv=>whnf
  refine ah.pure (S.jV (p.rules.getD i default).right p.states.length false (by have:=hr.right; omega) ⟨by omega,by omega⟩) rfl ?_
  conv=>whnf
  refine⟨fun c7=>?_,fun c7=>?_⟩
  ·conv=>whnf
   exact aj.int (by rw[hR,iq,hg,c1,c2,c3,c4,c5,c6]; simp only[XP,f0,fN (Rk c7)])
  replace c7:=Ce c7
  conv=>whnf
  refine ah.pure (S.jV (p.rules.getD i default).parent p.states.length false (by have:=hr.parent; omega) ⟨by omega,by omega⟩) rfl ?_
  conv=>whnf
  refine⟨fun c8=>?_,fun c8=>?_⟩
  ·conv=>whnf
   exact aj.int (by rw[hR,iq,hg,c1,c2,c3,c4,c5,c6,c7]; simp only[XP,f0,fN (Rk c8)])
  replace c8:=Ce c8
  conv=>whnf
  repeat(refine VC.mk id ?_; conv=>whnf)
  refine ah.gJ (fun _=>S.aZ (p.rules.getD i default).pos 0 2) rfl ?_
  conv=>whnf
  repeat(refine VC.mk (by first|exact id|(intro h; simp_all; done)) ?_; conv=>whnf)
  refine⟨fun c9=>?_,fun c9=>?_⟩
  ·conv=>whnf
   exact aj.int (by rw[hR,iq,hg,c1,c2,c3,c4,c5,c6,c7,c8,show DY p (p.rules.getD i default)=true from c9]; rfl)
  replace c9:DY p (p.rules.getD i default)=false:=c9
  conv=>whnf
  repeat(refine VC.mk id ?_; conv=>whnf)
  refine ah.gJ (fun _=>S.aZ (p.rules.getD i default).direction 3 4) rfl ?_
  conv=>whnf
  repeat(refine VC.mk id ?_; conv=>whnf)
  refine⟨fun c10=>?_,fun c10=>?_⟩
  ·conv=>whnf
   exact aj.int (by rw[hR,iq,hg,c1,c2,c3,c4,c5,c6,c7,c8,c9,show DZ p (p.rules.getD i default)=true from c10]; rfl)
  replace c10:DZ p (p.rules.getD i default)=false:=c10
  conv=>whnf
  repeat(refine VC.mk id ?_; conv=>whnf)
  refine ah.gJ (fun _=>S.aZ (p.rules.getD i default).direction 1 2) rfl ?_
  conv=>whnf
  repeat(refine VC.mk id ?_; conv=>whnf)
  refine⟨fun c11=>?_,fun c11=>?_⟩
  ·conv=>whnf
   exact aj.int (by rw[hR,iq,hg,c1,c2,c3,c4,c5,c6,c7,c8,c9,c10,show D5 p (p.rules.getD i default)=true from c11]; rfl)
  replace c11:D5 p (p.rules.getD i default)=false:=c11
  conv=>whnf
  exact aj.int (by rw[hR,iq,hg,c1,c2,c3,c4,c5,c6,c7,c8,c9,c10,c11]; rfl)
end Go.Proofs.YtkmldgihhaooaaaGreatDoor
