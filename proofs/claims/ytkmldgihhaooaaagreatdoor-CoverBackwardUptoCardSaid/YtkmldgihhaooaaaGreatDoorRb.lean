/-
 The two programs' rules for a protocol's rules say the same. No condition.
-/
import Derived.Test.YtkmldgihhaooaaaGreatDoorRa
import Derived.Test.YtkmldgihhaooaaaGreatDoorLg
namespace Go.Proofs.YtkmldgihhaooaaaGreatDoor
open Go.Ab Go.Proofs
theorem wW{x n:Int}:(!(iC x 0 (n-1)))=pR x n:=by rw[qw,Bool.not_not]
theorem vals_eq(p:aI)(r:Rule):Bg p r=((decide (r.read< -1)||decide (r.read>=p.values.length))||(decide (r.write< -1)||decide (r.write>=p.values.length))):=by
 simp only[Bg,wW,pR];rw[Bool.eq_iff_iff]; simp; omega
theorem acE(a b:Bool)(v:Int)(r:List Int)(h:v≠0):bD (dQ (a||b) v::r)=bD (dQ a v::dQ b v::r):=by
 cases a<;>cases b<;>simp[dQ,bD,h]
theorem QH(p:aI)(l:List Bq)(r:List Int):bD (yL p l::r)=bD (kJ p l::dQ (decide ((l.length:Int)>2)) 4::r):=by
 by_cases h:kJ p l=0
 ·rw[show yL p l=dQ (decide ((l.length:Int)>2)) 4 from if_pos h,h]; rfl
 ·rw[show yL p l=kJ p l from if_neg h,fN h,fN h]
theorem WA{c d:Bool}:(bif c then true else d)=(c||d):=by cases c<;>rfl
theorem len_nil{α:Type}{l:List α}(h:decide ((l.length:Int)>0)=false):l=[]:=by
 cases l with
 |nil=>rfl
 |cons a r=>simp at h
theorem NQ{r:Rule}{t:Int}(h:mV r t=false) :
  (r.kind≠1->r.guards=[]/\r.ex=[]/\r.all=[]/\r.send=[])/\(r.kind≠1->r.kind≠2->r.kind≠3->r.read= -1/\r.write= -1) /\
  (r.kind≠3->r.response=[])/\(r.kind≠5->r.direction=0)/\(r.kind≠4->r.pos=0/\r.left=[]/\r.right=[])/\(¬(r.kind=4/\t=4)->r.parent=[]):=by
 simp only[mV,WA,Bool.or_eq_false_iff] at h;obtain⟨h1,h2,h3,⟨h4,h5⟩,h6,h7⟩:=h;refine⟨fun k=>?_,fun k1 k2 k3=>?_,fun k=>?_,fun k=>?_,fun k=>?_,fun k=>?_⟩
 ·simp only[beq_eq_false_iff_ne.2 k,Bool.not_false,Bool.true_and,Bool.or_eq_false_iff] at h1;exact⟨len_nil h1.1.1.1,len_nil h1.1.1.2,len_nil h1.1.2,len_nil h1.2⟩
 ·simp only[beq_eq_false_iff_ne.2 k1,beq_eq_false_iff_ne.2 k2,beq_eq_false_iff_ne.2 k3,Bool.not_false,Bool.true_and,Bool.or_eq_false_iff] at h2;exact⟨UQ h2.1,UQ h2.2⟩
 ·simp only[beq_eq_false_iff_ne.2 k,Bool.not_false,Bool.true_and] at h4;exact len_nil h4
 ·simp only[beq_eq_false_iff_ne.2 k,Bool.not_false,Bool.true_and] at h5;exact UQ h5
 ·simp only[beq_eq_false_iff_ne.2 k,Bool.not_false,Bool.true_and,Bool.or_eq_false_iff] at h6;exact⟨UQ h6.1.1,len_nil h6.1.2,len_nil h6.2⟩
 ·refine len_nil ?_;rw[Bool.and_eq_false_iff] at h7;rcases h7 with h7|h7
  ·exact h7
  ·simp only[Bool.not_eq_false',Bool.and_eq_true,beq_iff_eq] at h7;exact absurd h7 k
theorem kind_eq{r:Rule}{t:Int}:((!(iC r.kind 1 5)||(decide (r.kind<=3) !=(t==1)))||mV r t)=(!(vP r.kind t)||kY r t):=by
 by_cases hk:1<=r.kind/\r.kind<=5
 ·rw[BI hk]
  congr 1
  have hk':r.kind=1\/r.kind=2\/r.kind=3\/r.kind=4\/r.kind=5:=by omega
  rcases hk' with e|e|e|e|e<;>rw[e]<;>cases ht:(t==1)<;>simp[iC,vP,ht]
 ·have h1:iC r.kind 1 5=false:=by rw[iC,Bool.and_eq_false_iff]; simp; omega
  have h2:vP r.kind t=false:=by
   have:r.kind≠1/\r.kind≠2/\r.kind≠3/\r.kind≠4/\r.kind≠5:=by omega
   obtain⟨a,b,c,d,e⟩:=this;simp[vP,a,b,c,d,e]
  rw[h1,h2]; rfl
theorem JK(p:aI)(r:Rule):(yc p r !=0)=(pR r.fr p.states.length||pR r.to p.states.length):=by
 simp only[yc,cZ];cases pR r.fr p.states.length<;>cases pR r.to p.states.length<;>rfl
theorem agu(p:aI)(r:Rule)(h:(yc p r !=0)=true):yc p r=5:=by
 rw[JK] at h;simp only[yc,cZ];revert h;cases pR r.fr p.states.length<;>cases pR r.to p.states.length<;>intro h<;>first|rfl|cases h
theorem Dx(n:Int):iZ [] n=0:=rfl
theorem ZU(x:Int):bD [x,0,0,0,0,0,0]=bD [x]:=by
 simp only[bD]; simp
theorem ED{a:Int}{X Y:List Int}(h:bD X=bD Y):bD (a::X)=bD (a::Y):=by simp only[bD,h]
theorem Wp(x:Int):bD [x,0,0,0,0,0,0,0]=bD [x]:=by
 simp only[bD]; simp
theorem Wq(x:Int):bD [x,0,0]=bD [x]:=by
 simp only[bD]; simp
theorem Nj(p:aI)(r:Rule):bD [dQ (Bg p r) 5,0,0,0,0,0,0,0]=bD [jT p r.read,jT p r.write]:=by
 rw[vals_eq,acE _ _ _ _ (by decide)];exact ED (Wp _)
theorem acF(p:aI)(i:Nat):zU p i=gX p i:=by
 simp only[zU,gX,tX,rZ];generalize p.rules.getD i default=r;cases hv:validName r.name with
 |false=>rfl
 |true =>
 cases ha:(p.rules.take i).any (fun x=>x.name==r.name) with
 |true=>rfl
 |false =>
 simp only[Jz,kind_eq,Bool.not_true,Bool.or_false,cond_false];cases hk:(!(vP r.kind p.topology)||kY r p.topology) with
 |true=>rfl
 |false =>
 have hk2:=hk;rw[<- kind_eq,Bool.or_eq_false_iff,Bool.or_eq_false_iff,Bool.not_eq_false'] at hk2;obtain⟨⟨k1,_⟩,k2⟩:=hk2;obtain⟨u1,u2,u3,u4,u5,u6⟩:=NQ k2;have hk':r.kind=1\/r.kind=2\/r.kind=3\/r.kind=4\/r.kind=5:=by
  simp only[iC,Bool.and_eq_true,decide_eq_true_eq] at k1; omega
 cases he:(yc p r !=0) with
 |true =>
  rw[agu p r he];rw[JK] at he;simp only[Jy,wW,he]; rfl
 |false =>
 rw[JK] at he;simp only[Jy,wW,he,Bool.false_or,cond_false];rcases hk' with e|e|e|e|e
 ·have a5:=u5 (by omega);have m4:Fz p r=false:=by simp[Fz,e]
  have d1:FB p r=false:=by simp[FB,e]
  have d2:FC p r=false:=by simp[FC,e]
  simp only[iI,m4,d1,d2,a5.2.1,a5.2.2,u6 (by omega),e,Dx,Int.reduceBEq,Bool.or_self,Bool.false_and,cond_false,cond_true];rw[QH];refine ED (ED (ED (ED ?_)));rw[vals_eq,acE _ _ _ _ (by decide)];refine ED (ED ?_);exact ZU _
 ·obtain⟨g1,g2,g3,g4⟩:=u1 (by omega);have a5:=u5 (by omega);have m4:Fz p r=false:=by simp[Fz,e]
  have d1:FB p r=false:=by simp[FB,e]
  have d2:FC p r=false:=by simp[FC,e]
  simp only[iI,m4,d1,d2,g1,g2,g3,g4,a5.2.1,a5.2.2,u6 (by omega),e,Dx,Int.reduceBEq,Bool.or_false,Bool.true_and,cond_false,cond_true,cZ];cases pR r.jh p.states.length with
  |true=>rfl
  |false =>
   cases pR r.zV p.states.length with
   |true=>rfl
   |false=>exact Nj p r
 ·obtain⟨g1,g2,g3,g4⟩:=u1 (by omega);have a5:=u5 (by omega);have m4:Fz p r=false:=by simp[Fz,e]
  have d1:FB p r=false:=by simp[FB,e]
  have d2:FC p r=false:=by simp[FC,e]
  simp only[iI,m4,d1,d2,g1,g2,g3,g4,a5.2.1,a5.2.2,u6 (by omega),e,Dx,Int.reduceBEq,Bool.or_self,Bool.false_and,cond_false,cond_true,FP];cases ((r.response.length:Int) !=p.states.length) with
  |true=>rfl
  |false =>
   simp only[cond_false];by_cases hz:qW r.response p.states.length=0
   ·rw[hz]; exact Nj p r
   ·rw[show(qW r.response p.states.length !=0)=true by simpa using hz,fN hz]; rfl
 ·obtain⟨g1,g2,g3,g4⟩:=u1 (by omega);obtain⟨v1,v2⟩:=u2 (by omega) (by omega) (by omega);have m4:Fz p r=acG p r:=by
   simp only[Fz,acG,e,pU]; rfl
  have d1:FB p r=false:=by simp[FB,e]
  have d2:FC p r=false:=by simp[FC,e]
  have vv:Bg p r=false:=by simp[Bg,v1,v2]
  simp only[iI,m4,d1,d2,vv,g1,g2,g3,g4,e,Dx,Int.reduceBEq,Bool.or_self,Bool.false_and,cond_false,cond_true];exact ED (ED (ED (Wq _)))
 ·obtain⟨g1,g2,g3,g4⟩:=u1 (by omega);obtain⟨v1,v2⟩:=u2 (by omega) (by omega) (by omega);have a5:=u5 (by omega);have m4:Fz p r=false:=by simp[Fz,e]
  have vv:Bg p r=false:=by simp[Bg,v1,v2]
  have d1:FB p r=((p.topology==4)&&(decide (r.direction<3)||decide (r.direction>4))):=by
   simp only[FB,e,pU]; rfl
  have d2:FC p r=(!(p.topology==4)&&(decide (r.direction<1)||decide (r.direction>2))):=by
   simp only[FC,e,pU]; rfl
  simp only[iI,m4,d1,d2,vv,g1,g2,g3,g4,a5.2.1,a5.2.2,u6 (by omega),e,Dx,Int.reduceBEq,Bool.or_true,Bool.true_and,cond_false,cZ];cases pR r.jh p.states.length with
  |true=>cases (p.topology==4)<;>rfl
  |false =>
   cases pR r.zV p.states.length with
   |true=>cases (p.topology==4)<;>rfl
   |false =>
    cases (p.topology==4) with
    |true=>cases (decide (r.direction<3)||decide (r.direction>4))<;>rfl
    |false=>cases (decide (r.direction<1)||decide (r.direction>2))<;>rfl
theorem acH{p:aI}:(!(iC p.topology 1 4)|| !(iC p.fault 0 3))=vO p:=by
 simp only[pU,vO,Bool.or_assoc]
theorem S.ZV(p:aI)(i:Nat)(hi:i<p.rules.length)(hp:eU p):ak Tryz.prog 103 [.dat (.fV p),.int i] (.int (gX p i)):=by
 rw[<- acF]; exact S.Dw p i hi hp
theorem ahz{h:Hz}{j:Nat}{Z:Nat->Prop}{l:List Str}(hz:Z j)(q:h.get j=some (.row 9 0 (.strs l) [])):T.sub Z h.ay (V.row 0 false (.strs l)).aH (V.own j).aH:=by
 show T.sub Z h.ay (.sl 0 false (l.map eS)) (.own j);simp only[T.sub];refine⟨trivial,hz,?_,by decide,9,?_⟩
 ·rw[fZ]; intro t ht; obtain⟨x,_,rfl⟩:=List.mem_map.1 ht; rfl
 ·have:=aN q;rw[this]; simp[OV.au,Rw.aU,V.aU]
theorem S.pV(p:aI)(hp:eU p):ak Tryz.prog 65 [.dat (.fV p)] (.int (bI p)):=by
 have g1:=hp.states; have g2:=hp.messages; have g3:=hp.values; have g4:=hp.cu; have g5:=hp.initial; have g6:=hp.leader; have g7:=hp.rules;refine ak.of Bd.pV (by simp) rfl rfl ?_;refine ah.pure (S.jO p.name) rfl ?_;refine⟨fun h1=>?_,fun h1=>?_⟩
 ·conv=>whnf
  exact aj.int (by rw[bI,h1]; rfl)
 refine ah.pure (S.aY p.topology 1 4) rfl ?_;repeat(refine VC.mk id ?_)
 refine ah.ig (fun _=>S.aY p.fault 0 3) rfl ?_;repeat(refine VC.mk (by first|exact id|(intro h; rw[h]; rfl)) ?_)
 refine⟨fun h2=>?_,fun h2=>?_⟩
 ·conv=>whnf
  rw[acH] at h2;exact aj.int (by rw[bI,h1,h2]; rfl)
 rw[acH] at h2;refine⟨fun h3=>?_,fun h3=>?_⟩
 ·conv=>whnf
  exact aj.int (by rw[bI,h1,h2,show((p.states.length:Int)==0)=true from h3]; rfl)
 replace h3:((p.states.length:Int)==0)=false:=h3;repeat(refine VC.mk (by first|exact id|(intro h; rw[h]; rfl)) ?_)
 refine⟨fun h4=>?_,fun h4=>?_⟩
 ·conv=>whnf
  exact aj.int (by rw[bI,h1,h2,h3,show wV p=true from h4]; rfl)
 replace h4:wV p=false:=h4;have h0:0<p.states.length:=by
  rcases Nat.eq_zero_or_pos p.states.length with e|e
  ·rw[e] at h3; exact absurd h3 (by decide)
  ·exact e
 have hlen:(allNames p).length<2^30:=by simp only[allNames,List.length_append]; omega
 repeat(refine VC.mk (by simp only[jH,jP,Rw.len,List.length_append]; omega) ?_)
 refine aA.fz 3 57 0 (.strs (allNames p)) rfl rfl (ahz rfl rfl) ?_;refine aA.same [1,3] (fun i:Nat=>[(4,.int i)]) (fun i=>i<=(allNames p).length/\(List.range i).any (QI (allNames p))=false) (fun i=>(allNames p).length-i) 0 rfl (by decide) rfl (fun _=>rfl) ⟨Nat.zero_le _,rfl⟩ ⟨⟨_,rfl,rfl⟩,trivial⟩ ?_;refine⟨rfl,?_⟩;rintro i ⟨hi,hall⟩;refine⟨fun h5=>?_,fun h5=>?_⟩
 ·have hi':i<(allNames p).length:=by have:(i:Int)<((allNames p).length:Int):=of_decide_eq_true h5; omega
  refine .mk (by simp only[Rw.rng] at *; omega) ?_;refine ah.pure (S.jO ((allNames p).getD i [])) rfl ?_;repeat(refine VC.mk (by first|exact id|exact fun h=>⟨h,h⟩|(intro h; (repeat' apply And.intro)<;>first|exact h|omega|(simp only[Rw.qY]; omega)|(simp only[Rw.rng]; omega))) ?_)
  refine ah.ig (fun _=>S.rQ ((allNames p).take i) ((allNames p).getD i []) _ (by rw[List.length_take]; omega)) rfl ?_;refine .mk (by intro h; rw[h]; rfl) ?_;refine⟨fun h6=>?_,fun h6=>?_⟩
  ·conv=>whnf
   refine aj.int ?_;rw[bI,h1,h2,h3,h4,show AQ p=2 by rw[AQ,Dy.2 ⟨i,hi',h6⟩]; rfl]; rfl
  ·conv=>whnf
   refine .mk (by simp only[okI] at *; omega) ?_;refine⟨i+1,⟨by omega,?_⟩,by omega,⟨⟨_,rfl,rfl⟩,trivial⟩,?_,rfl⟩
   ·rw[List.range_succ,List.any_append,hall];simp only[List.any_cons,List.any_nil,Bool.or_false,Bool.false_or]; exact h6
   ·repeat' (first|exact trivial|exact⟨_,rfl,rfl⟩|constructor)
 have hi':(allNames p).length<=i:=by have: ¬ ((i:Int)<((allNames p).length:Int)):=of_decide_eq_false h5; omega
 have e:i=(allNames p).length:=Nat.le_antisymm hi hi';subst e;have h5:AQ p=0:=by rw[AQ,hall]; rfl
 clear hi hall hi' hlen;repeat(refine VC.mk (by first|exact id|(intro h; rw[h]; rfl)|(intro h; simp[h]; done)|(intro h; simp_all; done)) ?_)
 refine⟨fun h6=>?_,fun h6=>?_⟩
 ·conv=>whnf
  exact aj.int (by rw[bI,h1,h2,h3,h4,h5,show Uy p=true from h6]; rfl)
 replace h6:Uy p=false:=h6;refine aA.same [1] (fun i:Nat=>[(5,.int i)]) (fun i=>i<=p.cu.length/\(p.cu.take i).any (fun l=> !(Uo l))=false) (fun i=>p.cu.length-i) 0 rfl (by decide) rfl (fun _=>rfl) ⟨by omega,by simp⟩ ⟨⟨_,rfl,rfl⟩,trivial⟩ ?_;refine⟨rfl,?_⟩;rintro i ⟨hi,hall⟩;refine⟨fun h7=>?_,fun h7=>?_⟩
 ·have hi':i<p.cu.length:=by simpa using h7
  refine .mk (by simp only[Rw.rng] at *; omega) ?_;refine ah.pure (S.AP (p.cu.getD i default)) rfl ?_;refine⟨fun h8=>?_,fun h8=>?_⟩
  ·conv=>whnf
   exact aj.int (by rw[bI,h1,h2,h3,h4,h5,h6,iQ (d:=default) hi' h8]; rfl)
  ·conv=>whnf
   refine .mk (by simp only[okI] at *; omega) ?_;refine⟨i+1,⟨by omega,?_⟩,by omega,⟨⟨_,rfl,rfl⟩,trivial⟩,?_,rfl⟩
   ·rw[kS (d:=default) hi' hall]; exact h8
   ·repeat' (first|exact trivial|exact⟨_,rfl,rfl⟩|constructor)
 have hi':p.cu.length<=i:=by simpa using h7
 rw[List.take_of_length_le hi'] at hall;clear hi hi' h7;refine ah.pure (S.jc p.initial p.states.length false (by omega) ⟨by omega,by omega⟩) rfl ?_;refine⟨fun h7=>?_,fun h7=>?_⟩
 ·replace h7:=Ux h7
  have:y5 p=iZ p.initial p.states.length:=fN h7
  exact aj.int (by rw[bI,h1,h2,h3,h4,h5,h6,hall,this,show(iZ p.initial p.states.length !=0)=true by simpa using h7]; rfl)
 replace h7:=BD h7;refine⟨fun h8=>?_,fun h8=>?_⟩
 ·replace h8:((p.initial.length:Int)==0)=true:=h8
  have:y5 p=1:=by rw[y5,h7,h8]; rfl
  exact aj.int (by rw[bI,h1,h2,h3,h4,h5,h6,hall,this]; rfl)
 replace h8:((p.initial.length:Int)==0)=false:=h8;refine ah.pure (S.jc p.leader p.states.length false (by omega) ⟨by omega,by omega⟩) rfl ?_;refine⟨fun h9=>?_,fun h9=>?_⟩
 ·replace h9:=Ux h9
  have:y5 p=iZ p.leader p.states.length:=by rw[y5,h7,h8]; exact fN h9
  exact aj.int (by rw[bI,h1,h2,h3,h4,h5,h6,hall,this,show(iZ p.leader p.states.length !=0)=true by simpa using h9]; rfl)
 replace h9:=BD h9;have h10:y5 p=0:=by rw[y5,h7,h8,h9]; rfl
 refine aA.same [1] (fun i:Nat=>[(8,.int i)]) (fun i=>i<=p.rules.length/\EF p=bD (((List.range p.rules.length).drop i).map (gX p))) (fun i=>p.rules.length-i) 0 rfl (by decide) rfl (fun _=>rfl) ⟨by omega,by simp[EF]⟩ ⟨⟨_,rfl,rfl⟩,trivial⟩ ?_;refine⟨rfl,?_⟩;rintro i ⟨hi,hr⟩;refine⟨fun h11=>?_,fun h11=>?_⟩
 ·have hi':i<p.rules.length:=by simpa using h11
  rw[Nk hi'] at hr;simp only[bD] at hr;refine ah.pure (S.ZV p i hi' hp) rfl ?_;refine⟨fun h12=>?_,fun h12=>?_⟩
  ·conv=>whnf
   have aah:gX p i≠0:=Ux h12;rw[if_neg aah] at hr;exact aj.int (by rw[bI,h1,h2,h3,h4,h5,h6,hall,h10,hr,show(gX p i !=0)=true from h12]; rfl)
  ·conv=>whnf
   refine .mk (by simp only[okI] at *; omega) ?_;conv=>whnf
   have aah:gX p i=0:=BD h12;rw[if_pos aah] at hr;refine⟨i+1,⟨by omega,hr⟩,by omega,⟨⟨_,rfl,rfl⟩,trivial⟩,?_,rfl⟩;repeat' (first|exact trivial|exact⟨_,rfl,rfl⟩|constructor)
 have hi':p.rules.length<=i:=by simpa using h11
 rw[List.drop_eq_nil_of_le (by simpa using hi')] at hr;refine ah.pure (S.tV p hp) rfl ?_;refine⟨fun h12=>?_,fun h12=>?_⟩
 ·conv=>whnf
  exact aj.int (by rw[bI,h1,h2,h3,h4,h5,h6,hall,h10,hr,show decide (((zS p.rules).length:Int)>3)=true from h12]; rfl)
 ·conv=>whnf
  exact aj.int (by rw[bI,h1,h2,h3,h4,h5,h6,hall,h10,hr,show decide (((zS p.rules).length:Int)>3)=false from h12]; rfl)
def Uz(p:aI)(i:Nat):V:=.agg [.bool (((p.topology==1)&&((p.values.length:Int)==0))&&(p.rules.take i).foldl UA true),.bool (sF p&& !((p.rules.take i).foldl QY false)),.bool ((p.topology==2)||(p.topology==3)),.bool (p.topology==4),.bool (sF p&&decide ((p.states.length:Int)<=4))]
def badR(r:Rule):Bool:=r.kind !=1||decide (r.fr>=r.to)||decide ((r.ex.length:Int)>0)||decide ((r.all.length:Int)>0)
theorem aeF{acc:Bool}{r:Rule}(h:badR r=true):UA acc r=false:=by
 simp only[badR,Bool.or_eq_true,bne_iff_ne,decide_eq_true_eq] at h;simp only[UA];rw[Bool.eq_false_iff]; intro q;simp only[Bool.and_eq_true,beq_iff_eq,decide_eq_true_eq] at q;omega
theorem agv{acc:Bool}{r:Rule}(h:badR r=false):UA acc r=acc:=by
 simp only[badR,Bool.or_eq_false_iff,bne_eq_false_iff_eq,decide_eq_false_iff_not] at h;obtain⟨⟨⟨a,b⟩,c⟩,d⟩:=h;simp only[UA];rw[show(r.kind==1)=true from beq_iff_eq.2 a,decide_eq_true (by omega),show((r.ex.length:Int)==0)=true from beq_iff_eq.2 (by omega),show((r.all.length:Int)==0)=true from beq_iff_eq.2 (by omega)];simp
theorem aic(p:aI):Uz p 0= .agg [.bool ((p.topology==1)&&((p.values.length:Int)==0)),.bool (sF p),.bool ((p.topology==2)||(p.topology==3)),.bool (p.topology==4),.bool (sF p&&decide ((p.states.length:Int)<=4))]:=by
 simp[Uz]
theorem H7(p:aI){i:Nat}(hi:i<p.rules.length):Uz p (i+1) =
  .agg [.bool (bif badR (p.rules.getD i default) then false else((p.topology==1)&&((p.values.length:Int)==0))&&(p.rules.take i).foldl UA true),
   .bool (bif decide (((p.rules.getD i default).all.length:Int)>0) then false else sF p&& !((p.rules.take i).foldl QY false)),.bool ((p.topology==2)||(p.topology==3)),.bool (p.topology==4),.bool (sF p&&decide ((p.states.length:Int)<=4))]:=by
 simp only[Uz,Dv (d:=default) hi];cases hb:badR (p.rules.getD i default) with
 |true =>
  rw[aeF hb,QY];cases decide (((p.rules.getD i default).all.length:Int)>0)<;>simp
 |false =>
  rw[agv hb,QY];cases decide (((p.rules.getD i default).all.length:Int)>0)<;>simp
theorem S.sG(p:aI)(hp:eU p):ak Tryz.prog 35 [.dat (.fV p)] (Je p):=by
 have g1:=hp.states; have g2:=hp.messages; have g3:=hp.values; have g4:=hp.cu; have g7:=hp.rules;refine ak.of Bd.sG (by simp) rfl rfl ?_;refine ah.pure (S.pV p hp) rfl ?_;refine⟨fun h1=>?_,fun h1=>?_⟩
 ·conv=>whnf
  refine aj.eqv ?_;rw[Je,h1]; rfl
 have h1':bI p=0:=BD h1;repeat(refine VC.mk (by first|exact id|(intro h; rw[h]; rfl)) ?_)
 refine aA.objs 100 [1,2,7] (fun i:Nat=>[(8,.int i)]) (fun i=>[(0,.box 27 11 (.dat (.fV p))),(1,.box 68 6 (ahA QZ)),(58,.box 68 6 (Uz p i))]) (fun i=>i<=p.rules.length) (fun i=>p.rules.length-i) 0 [0,1,58] rfl (by decide) (fun _=>rfl) (Nat.zero_le _) ?_ ?_ ?_
 ·exact(sR rfl)
 ·refine⟨dL rfl rfl,dL rfl rfl,⟨rfl,nofun,rfl,rfl,rfl,_,rfl,rfl,rfl,dP.of_eq ?_⟩,trivial⟩;rw[aic]; rfl
 refine⟨(sR rfl),rfl,?_⟩;rintro i hi;have g8:=hp.rule i;have g9:=g8.ex; have g10:=g8.all;refine⟨fun h3=>?_,fun h3=>?_⟩
 ·have hi':i<p.rules.length:=by simpa using h3
  repeat(refine VC.mk (by first|exact id|exact fun h=>⟨h,h⟩|(intro h; rw[h]; rfl)|(simp only[Rw.rng] at *; omega)) ?_)
  refine⟨fun h4=>?_,fun h4=>?_⟩
  ·replace h4:badR (p.rules.getD i default)=true:=h4;refine⟨fun h5=>?_,fun h5=>?_⟩
   ·replace h5:decide (((p.rules.getD i default).all.length:Int)>0)=true:=h5;refine .mk (by simp only[okI] at *; omega) ?_;refine⟨i+1,[0,1,58],by omega,by omega,(sR rfl),(sR rfl),dL rfl rfl,dL rfl rfl,⟨rfl,nofun,rfl,rfl,rfl,_,rfl,rfl,rfl,dP.of_eq ?_⟩,trivial⟩;rw[H7 p hi',h4,h5]; rfl
   ·replace h5:decide (((p.rules.getD i default).all.length:Int)>0)=false:=h5;refine .mk (by simp only[okI] at *; omega) ?_;refine⟨i+1,[0,1,58],by omega,by omega,(sR rfl),(sR rfl),dL rfl rfl,dL rfl rfl,⟨rfl,nofun,rfl,rfl,rfl,_,rfl,rfl,rfl,dP.of_eq ?_⟩,trivial⟩;rw[H7 p hi',h4,h5]; rfl
  ·replace h4:badR (p.rules.getD i default)=false:=h4;refine⟨fun h5=>?_,fun h5=>?_⟩
   ·replace h5:decide (((p.rules.getD i default).all.length:Int)>0)=true:=h5;refine .mk (by simp only[okI] at *; omega) ?_;refine⟨i+1,[0,1,58],by omega,by omega,(sR rfl),(sR rfl),dL rfl rfl,dL rfl rfl,⟨rfl,nofun,rfl,rfl,rfl,_,rfl,rfl,rfl,dP.of_eq ?_⟩,trivial⟩;rw[H7 p hi',h4,h5]; rfl
   ·replace h5:decide (((p.rules.getD i default).all.length:Int)>0)=false:=h5;refine .mk (by simp only[okI] at *; omega) ?_;refine⟨i+1,[0,1,58],by omega,by omega,(sR rfl),(sR rfl),dL rfl rfl,dL rfl rfl,⟨rfl,nofun,rfl,rfl,rfl,_,rfl,rfl,rfl,dP.of_eq ?_⟩,trivial⟩;rw[H7 p hi',h4,h5]; rfl
 have hi':p.rules.length<=i:=by simpa using h3
 have e:i=p.rules.length:=Nat.le_antisymm hi hi';subst e;refine aj.eqv ?_;rw[Je,h1',kT];simp only[List.take_length];rfl
theorem QE{x:Int}:(decide (x<0)||decide (1048576<x))= !(AU x):=by
 unfold AU; rw[Bool.eq_iff_iff]; simp
def X7(p:aI):Int:=bif bI p !=0 then bI p else bif !(kT p).cover&& !(kT p).monadic then 7 else 0
def lH(p:aI)(e:Elem):Bool:=((((e.counts.length:Int) !=p.states.length)|| !(e.counts.all AU))||decide (e.value<0))||decide (e.value>=max 1 (p.values.length:Int))
def WC(p:aI)(e:Elem):Int:=bif X7 p !=0 then X7 p else dQ (lH p e) 1
theorem S.iV(p:aI)(e:Elem)(hp:eU p)(he:e.counts.length<2^30):ak Tryz.prog 44 [.dat (.fV p),.dat (.elem e)] (.int (dQ (lH p e) 1)):=by
 have g1:=hp.states;have g3:=hp.values;refine ak.of Bd.iV (by simp) rfl rfl ?_;repeat(refine VC.mk id ?_)
 refine ah.ig (fun _=>S.lq e.counts false (by omega)) rfl ?_;repeat(refine VC.mk (by first|exact id|exact fun h=>⟨h,h⟩|(intro h; rw[h]; rfl)) ?_)
 refine⟨fun h1=>?_,fun h1=>?_⟩
 ·conv=>whnf
  exact aj.int (by rw[show lH p e=true from h1]; rfl)
 ·conv=>whnf
  exact aj.int (by rw[show lH p e=false from h1]; rfl)
theorem Ws(p:aI)(e:Elem):lH p e=(((((e.counts.length:Int) !=p.states.length)||decide (e.value<0))||decide (e.value>=max 1 (p.values.length:Int)))|| !(e.counts.all AU)):=by
 unfold lH;cases ((e.counts.length:Int) !=p.states.length)<;>cases (e.counts.all AU)<;>cases decide (e.value<0)<;>cases decide (e.value>=max 1 (p.values.length:Int))<;>rfl
theorem S.Dt(p:aI)(e:Elem)(hp:eU p)(he:e.counts.length<2^30):ak Tryz.prog 36 [.dat (.fV p),.dat (.elem e)] (.bool (!(lH p e))):=by
 have g1:=hp.states;have g3:=hp.values;refine ak.of Bd.Dt (by simp) rfl rfl ?_;repeat(refine VC.mk (by first|exact id|exact fun h=>⟨h,h⟩|(intro h; rw[h]; rfl)) ?_)
 refine⟨fun h1=>?_,fun h1=>?_⟩
 ·conv=>whnf
  refine aj.bool ?_;rw[Ws,show((((e.counts.length:Int) !=p.states.length)||decide (e.value<0))||decide (e.value>=max 1 (p.values.length:Int)))=true from h1]; rfl
 refine aA.same [2,3] (fun i:Nat=>[(5,.int i)]) (fun i=>i<=e.counts.length/\(e.counts.take i).all AU=true) (fun i=>e.counts.length-i) 0 rfl (by decide) rfl (fun _=>rfl) ⟨by omega,by simp⟩ ⟨⟨_,rfl,rfl⟩,trivial⟩ ?_;refine⟨rfl,?_⟩;rintro i ⟨hi,hall⟩;refine⟨fun h3=>?_,fun h3=>?_⟩
 ·have hi':i<e.counts.length:=by simpa using h3
  repeat(refine VC.mk (by first|exact id|(intro h; rw[h]; rfl)|(intro h; (repeat' apply And.intro)<;>first|exact h|omega|(simp only[Rw.qY]; omega)|(simp only[Rw.rng]; omega))|(simp only[Rw.rng] at *; omega)) ?_)
  refine⟨fun h4=>?_,fun h4=>?_⟩
  ·conv=>whnf
   refine aj.bool ?_;replace h4:(decide (e.counts.getD i 0<0)||decide (1048576<e.counts.getD i 0))=true:=h4;rw[QE] at h4;rw[Ws,zW (d:=0) hi' (by simpa using h4)]; simp
  ·conv=>whnf
   refine .mk (by simp only[okI] at *; omega) ?_;conv=>whnf
   replace h4:(decide (e.counts.getD i 0<0)||decide (1048576<e.counts.getD i 0))=false:=h4;rw[QE] at h4;refine⟨i+1,⟨by omega,?_⟩,by omega,⟨⟨_,rfl,rfl⟩,trivial⟩,?_,rfl⟩
   ·rw[DC (d:=0) hi' hall]; simpa using h4
   ·repeat' (first|exact trivial|exact⟨_,rfl,rfl⟩|constructor)
 ·have hi':e.counts.length<=i:=by simpa using h3
  rw[List.take_of_length_le hi'] at hall;refine aj.bool ?_;rw[Ws,hall,show((((e.counts.length:Int) !=p.states.length)||decide (e.value<0))||decide (e.value>=max 1 (p.values.length:Int)))=false from h1]; rfl
end Go.Proofs.YtkmldgihhaooaaaGreatDoor
