/-
 The two programs' rules for a protocol's rules say the same. No condition.
-/
import Derived.Test.YtkmldgihhaooaaaGreatDoorRa
import Derived.Test.YtkmldgihhaooaaaGreatDoorLg
namespace Go.Proofs.YtkmldgihhaooaaaGreatDoor
open Go.Ab Go.Proofs
theorem wP{x n:Int}:(!(iw x 0 (n-1)))=pG x n:=by rw[qh,Bool.not_not]
theorem vals_eq(p:aJ)(r:Rule):AZ p r=((decide (r.read< -1)||decide (r.read>=p.values.length))||(decide (r.write< -1)||decide (r.write>=p.values.length))):=by
 simp only[AZ,wP,pG];rw[Bool.eq_iff_iff]; simp; omega
theorem aco(a b:Bool)(v:Int)(r:List Int)(h:v≠0):bC (dM (a||b) v::r)=bC (dM a v::dM b v::r):=by
 cases a<;>cases b<;>simp[dM,bC,h]
theorem Qx(p:aJ)(l:List Bf)(r:List Int):bC (yM p l::r)=bC (kJ p l::dM (decide ((l.length:Int)>2)) 4::r):=by
 by_cases h:kJ p l=0
 ·rw[show yM p l=dM (decide ((l.length:Int)>2)) 4 from if_pos h,h]; rfl
 ·rw[show yM p l=kJ p l from if_neg h,fN h,fN h]
theorem V7{c d:Bool}:(bif c then true else d)=(c||d):=by cases c<;>rfl
theorem len_nil{α:Type}{l:List α}(h:decide ((l.length:Int)>0)=false):l=[]:=by
 cases l with
 |nil=>rfl
 |cons a r=>simp at h
theorem Nz{r:Rule}{t:Int}(h:mG r t=false) :
  (r.kind≠1->r.guards=[]/\r.ex=[]/\r.all=[]/\r.send=[])/\(r.kind≠1->r.kind≠2->r.kind≠3->r.read= -1/\r.write= -1) /\
  (r.kind≠3->r.response=[])/\(r.kind≠5->r.direction=0)/\(r.kind≠4->r.pos=0/\r.left=[]/\r.right=[])/\(¬(r.kind=4/\t=4)->r.parent=[]):=by
 simp only[mG,V7,Bool.or_eq_false_iff] at h;obtain⟨h1,h2,h3,⟨h4,h5⟩,h6,h7⟩:=h;refine⟨fun k=>?_,fun k1 k2 k3=>?_,fun k=>?_,fun k=>?_,fun k=>?_,fun k=>?_⟩
 ·simp only[beq_eq_false_iff_ne.2 k,Bool.not_false,Bool.true_and,Bool.or_eq_false_iff] at h1;exact⟨len_nil h1.1.1.1,len_nil h1.1.1.2,len_nil h1.1.2,len_nil h1.2⟩
 ·simp only[beq_eq_false_iff_ne.2 k1,beq_eq_false_iff_ne.2 k2,beq_eq_false_iff_ne.2 k3,Bool.not_false,Bool.true_and,Bool.or_eq_false_iff] at h2;exact⟨UA h2.1,UA h2.2⟩
 ·simp only[beq_eq_false_iff_ne.2 k,Bool.not_false,Bool.true_and] at h4;exact len_nil h4
 ·simp only[beq_eq_false_iff_ne.2 k,Bool.not_false,Bool.true_and] at h5;exact UA h5
 ·simp only[beq_eq_false_iff_ne.2 k,Bool.not_false,Bool.true_and,Bool.or_eq_false_iff] at h6;exact⟨UA h6.1.1,len_nil h6.1.2,len_nil h6.2⟩
 ·refine len_nil ?_;rw[Bool.and_eq_false_iff] at h7;rcases h7 with h7|h7
  ·exact h7
  ·simp only[Bool.not_eq_false',Bool.and_eq_true,beq_iff_eq] at h7;exact absurd h7 k
theorem kind_eq{r:Rule}{t:Int}:((!(iw r.kind 1 5)||(decide (r.kind<=3) !=(t==1)))||mG r t)=(!(vI r.kind t)||kV r t):=by
 by_cases hk:1<=r.kind/\r.kind<=5
 ·rw[Bv hk]
  congr 1
  have hk':r.kind=1\/r.kind=2\/r.kind=3\/r.kind=4\/r.kind=5:=by omega
  rcases hk' with e|e|e|e|e<;>rw[e]<;>cases ht:(t==1)<;>simp[iw,vI,ht]
 ·have h1:iw r.kind 1 5=false:=by rw[iw,Bool.and_eq_false_iff]; simp; omega
  have h2:vI r.kind t=false:=by
   have:r.kind≠1/\r.kind≠2/\r.kind≠3/\r.kind≠4/\r.kind≠5:=by omega
   obtain⟨a,b,c,d,e⟩:=this;simp[vI,a,b,c,d,e]
  rw[h1,h2]; rfl
theorem Jw(p:aJ)(r:Rule):(yc p r !=0)=(pG r.fr p.states.length||pG r.to p.states.length):=by
 simp only[yc,cO];cases pG r.fr p.states.length<;>cases pG r.to p.states.length<;>rfl
theorem agb(p:aJ)(r:Rule)(h:(yc p r !=0)=true):yc p r=5:=by
 rw[Jw] at h;simp only[yc,cO];revert h;cases pG r.fr p.states.length<;>cases pG r.to p.states.length<;>intro h<;>first|rfl|cases h
theorem Dk(n:Int):iW [] n=0:=rfl
theorem Zz(x:Int):bC [x,0,0,0,0,0,0]=bC [x]:=by
 simp only[bC]; simp
theorem Et{a:Int}{X Y:List Int}(h:bC X=bC Y):bC (a::X)=bC (a::Y):=by simp only[bC,h]
theorem V3(x:Int):bC [x,0,0,0,0,0,0,0]=bC [x]:=by
 simp only[bC]; simp
theorem V4(x:Int):bC [x,0,0]=bC [x]:=by
 simp only[bC]; simp
theorem MR(p:aJ)(r:Rule):bC [dM (AZ p r) 5,0,0,0,0,0,0,0]=bC [jT p r.read,jT p r.write]:=by
 rw[vals_eq,aco _ _ _ _ (by decide)];exact Et (V3 _)
theorem acp(p:aJ)(i:Nat):zO p i=gW p i:=by
 simp only[zO,gW,tH,rU];generalize p.rules.getD i default=r;cases hv:validName r.name with
 |false=>rfl
 |true =>
 cases ha:(p.rules.take i).any (fun x=>x.name==r.name) with
 |true=>rfl
 |false =>
 simp only[Jh,kind_eq,Bool.not_true,Bool.or_false,cond_false];cases hk:(!(vI r.kind p.topology)||kV r p.topology) with
 |true=>rfl
 |false =>
 have hk2:=hk;rw[<- kind_eq,Bool.or_eq_false_iff,Bool.or_eq_false_iff,Bool.not_eq_false'] at hk2;obtain⟨⟨k1,_⟩,k2⟩:=hk2;obtain⟨u1,u2,u3,u4,u5,u6⟩:=Nz k2;have hk':r.kind=1\/r.kind=2\/r.kind=3\/r.kind=4\/r.kind=5:=by
  simp only[iw,Bool.and_eq_true,decide_eq_true_eq] at k1; omega
 cases he:(yc p r !=0) with
 |true =>
  rw[agb p r he];rw[Jw] at he;simp only[Jg,wP,he]; rfl
 |false =>
 rw[Jw] at he;simp only[Jg,wP,he,Bool.false_or,cond_false];rcases hk' with e|e|e|e|e
 ·have a5:=u5 (by omega);have m4:Fa p r=false:=by simp[Fa,e]
  have d1:Fb p r=false:=by simp[Fb,e]
  have d2:Fe p r=false:=by simp[Fe,e]
  simp only[iH,m4,d1,d2,a5.2.1,a5.2.2,u6 (by omega),e,Dk,Int.reduceBEq,Bool.or_self,Bool.false_and,cond_false,cond_true];rw[Qx];refine Et (Et (Et (Et ?_)));rw[vals_eq,aco _ _ _ _ (by decide)];refine Et (Et ?_);exact Zz _
 ·obtain⟨g1,g2,g3,g4⟩:=u1 (by omega);have a5:=u5 (by omega);have m4:Fa p r=false:=by simp[Fa,e]
  have d1:Fb p r=false:=by simp[Fb,e]
  have d2:Fe p r=false:=by simp[Fe,e]
  simp only[iH,m4,d1,d2,g1,g2,g3,g4,a5.2.1,a5.2.2,u6 (by omega),e,Dk,Int.reduceBEq,Bool.or_false,Bool.true_and,cond_false,cond_true,cO];cases pG r.je p.states.length with
  |true=>rfl
  |false =>
   cases pG r.zQ p.states.length with
   |true=>rfl
   |false=>exact MR p r
 ·obtain⟨g1,g2,g3,g4⟩:=u1 (by omega);have a5:=u5 (by omega);have m4:Fa p r=false:=by simp[Fa,e]
  have d1:Fb p r=false:=by simp[Fb,e]
  have d2:Fe p r=false:=by simp[Fe,e]
  simp only[iH,m4,d1,d2,g1,g2,g3,g4,a5.2.1,a5.2.2,u6 (by omega),e,Dk,Int.reduceBEq,Bool.or_self,Bool.false_and,cond_false,cond_true,Fv];cases ((r.response.length:Int) !=p.states.length) with
  |true=>rfl
  |false =>
   simp only[cond_false];by_cases hz:qU r.response p.states.length=0
   ·rw[hz]; exact MR p r
   ·rw[show(qU r.response p.states.length !=0)=true by simpa using hz,fN hz]; rfl
 ·obtain⟨g1,g2,g3,g4⟩:=u1 (by omega);obtain⟨v1,v2⟩:=u2 (by omega) (by omega) (by omega);have m4:Fa p r=acr p r:=by
   simp only[Fa,acr,e,pI]; rfl
  have d1:Fb p r=false:=by simp[Fb,e]
  have d2:Fe p r=false:=by simp[Fe,e]
  have vv:AZ p r=false:=by simp[AZ,v1,v2]
  simp only[iH,m4,d1,d2,vv,g1,g2,g3,g4,e,Dk,Int.reduceBEq,Bool.or_self,Bool.false_and,cond_false,cond_true];exact Et (Et (Et (V4 _)))
 ·obtain⟨g1,g2,g3,g4⟩:=u1 (by omega);obtain⟨v1,v2⟩:=u2 (by omega) (by omega) (by omega);have a5:=u5 (by omega);have m4:Fa p r=false:=by simp[Fa,e]
  have vv:AZ p r=false:=by simp[AZ,v1,v2]
  have d1:Fb p r=((p.topology==4)&&(decide (r.direction<3)||decide (r.direction>4))):=by
   simp only[Fb,e,pI]; rfl
  have d2:Fe p r=(!(p.topology==4)&&(decide (r.direction<1)||decide (r.direction>2))):=by
   simp only[Fe,e,pI]; rfl
  simp only[iH,m4,d1,d2,vv,g1,g2,g3,g4,a5.2.1,a5.2.2,u6 (by omega),e,Dk,Int.reduceBEq,Bool.or_true,Bool.true_and,cond_false,cO];cases pG r.je p.states.length with
  |true=>cases (p.topology==4)<;>rfl
  |false =>
   cases pG r.zQ p.states.length with
   |true=>cases (p.topology==4)<;>rfl
   |false =>
    cases (p.topology==4) with
    |true=>cases (decide (r.direction<3)||decide (r.direction>4))<;>rfl
    |false=>cases (decide (r.direction<1)||decide (r.direction>2))<;>rfl
theorem acs{p:aJ}:(!(iw p.topology 1 4)|| !(iw p.fault 0 3))=vH p:=by
 simp only[pI,vH,Bool.or_assoc]
theorem S.ZA(p:aJ)(i:Nat)(hi:i<p.rules.length)(hp:dW p):aj Tryz.prog 103 [.dat (.fQ p),.int i] (.int (gW p i)):=by
 rw[<- acp]; exact S.Dj p i hi hp
theorem ahh{h:Hz}{j:Nat}{Z:Nat->Prop}{l:List Str}(hz:Z j)(q:h.get j=some (.row 9 0 (.strs l) [])):T.sub Z h.ay (V.row 0 false (.strs l)).aH (V.own j).aH:=by
 show T.sub Z h.ay (.sl 0 false (l.map eS)) (.own j);simp only[T.sub];refine⟨trivial,hz,?_,by decide,9,?_⟩
 ·rw[fU]; intro t ht; obtain⟨x,_,rfl⟩:=List.mem_map.1 ht; rfl
 ·have:=aK q;rw[this]; simp[OV.au,Rw.aT,V.aT]
theorem S.pJ(p:aJ)(hp:dW p):aj Tryz.prog 65 [.dat (.fQ p)] (.int (bD p)):=by
 have g1:=hp.states; have g2:=hp.messages; have g3:=hp.values; have g4:=hp.bZ; have g5:=hp.initial; have g6:=hp.leader; have g7:=hp.rules;refine aj.of Bd.pJ (by simp) rfl rfl ?_;refine ah.pure (S.jL p.name) rfl ?_;refine⟨fun h1=>?_,fun h1=>?_⟩
 ·conv=>whnf
  exact ak.int (by rw[bD,h1]; rfl)
 refine ah.pure (S.aX p.topology 1 4) rfl ?_;repeat(refine VC.mk id ?_)
 refine ah.fV (fun _=>S.aX p.fault 0 3) rfl ?_;repeat(refine VC.mk (by first|exact id|(intro h; rw[h]; rfl)) ?_)
 refine⟨fun h2=>?_,fun h2=>?_⟩
 ·conv=>whnf
  rw[acs] at h2;exact ak.int (by rw[bD,h1,h2]; rfl)
 rw[acs] at h2;refine⟨fun h3=>?_,fun h3=>?_⟩
 ·conv=>whnf
  exact ak.int (by rw[bD,h1,h2,show((p.states.length:Int)==0)=true from h3]; rfl)
 replace h3:((p.states.length:Int)==0)=false:=h3;repeat(refine VC.mk (by first|exact id|(intro h; rw[h]; rfl)) ?_)
 refine⟨fun h4=>?_,fun h4=>?_⟩
 ·conv=>whnf
  exact ak.int (by rw[bD,h1,h2,h3,show wM p=true from h4]; rfl)
 replace h4:wM p=false:=h4;have h0:0<p.states.length:=by
  rcases Nat.eq_zero_or_pos p.states.length with e|e
  ·rw[e] at h3; exact absurd h3 (by decide)
  ·exact e
 have hlen:(allNames p).length<2^30:=by simp only[allNames,List.length_append]; omega
 repeat(refine VC.mk (by simp only[jl,jF,Rw.len,List.length_append]; omega) ?_)
 refine aA.fz 3 57 0 (.strs (allNames p)) rfl rfl (ahh rfl rfl) ?_;refine aA.same [1,3] (fun i:Nat=>[(4,.int i)]) (fun i=>i<=(allNames p).length/\(List.range i).any (Qy (allNames p))=false) (fun i=>(allNames p).length-i) 0 rfl (by decide) rfl (fun _=>rfl) ⟨Nat.zero_le _,rfl⟩ ⟨⟨_,rfl,rfl⟩,trivial⟩ ?_;refine⟨rfl,?_⟩;rintro i ⟨hi,hall⟩;refine⟨fun h5=>?_,fun h5=>?_⟩
 ·have hi':i<(allNames p).length:=by have:(i:Int)<((allNames p).length:Int):=of_decide_eq_true h5; omega
  refine .mk (by simp only[Rw.rng] at *; omega) ?_;refine ah.pure (S.jL ((allNames p).getD i [])) rfl ?_;repeat(refine VC.mk (by first|exact id|exact fun h=>⟨h,h⟩|(intro h; (repeat' apply And.intro)<;>first|exact h|omega|(simp only[Rw.qH]; omega)|(simp only[Rw.rng]; omega))) ?_)
  refine ah.fV (fun _=>S.rJ ((allNames p).take i) ((allNames p).getD i []) _ (by rw[List.length_take]; omega)) rfl ?_;refine .mk (by intro h; rw[h]; rfl) ?_;refine⟨fun h6=>?_,fun h6=>?_⟩
  ·conv=>whnf
   refine ak.int ?_;rw[bD,h1,h2,h3,h4,show AB p=2 by rw[AB,yY.2 ⟨i,hi',h6⟩]; rfl]; rfl
  ·conv=>whnf
   refine .mk (by simp only[okI] at *; omega) ?_;refine⟨i+1,⟨by omega,?_⟩,by omega,⟨⟨_,rfl,rfl⟩,trivial⟩,?_,rfl⟩
   ·rw[List.range_succ,List.any_append,hall];simp only[List.any_cons,List.any_nil,Bool.or_false,Bool.false_or]; exact h6
   ·repeat' (first|exact trivial|exact⟨_,rfl,rfl⟩|constructor)
 have hi':(allNames p).length<=i:=by have: ¬ ((i:Int)<((allNames p).length:Int)):=of_decide_eq_false h5; omega
 have e:i=(allNames p).length:=Nat.le_antisymm hi hi';subst e;have h5:AB p=0:=by rw[AB,hall]; rfl
 clear hi hall hi' hlen;repeat(refine VC.mk (by first|exact id|(intro h; rw[h]; rfl)|(intro h; simp[h]; done)|(intro h; simp_all; done)) ?_)
 refine⟨fun h6=>?_,fun h6=>?_⟩
 ·conv=>whnf
  exact ak.int (by rw[bD,h1,h2,h3,h4,h5,show Ui p=true from h6]; rfl)
 replace h6:Ui p=false:=h6;refine aA.same [1] (fun i:Nat=>[(5,.int i)]) (fun i=>i<=p.bZ.length/\(p.bZ.take i).any (fun l=> !(Ub l))=false) (fun i=>p.bZ.length-i) 0 rfl (by decide) rfl (fun _=>rfl) ⟨by omega,by simp⟩ ⟨⟨_,rfl,rfl⟩,trivial⟩ ?_;refine⟨rfl,?_⟩;rintro i ⟨hi,hall⟩;refine⟨fun h7=>?_,fun h7=>?_⟩
 ·have hi':i<p.bZ.length:=by simpa using h7
  refine .mk (by simp only[Rw.rng] at *; omega) ?_;refine ah.pure (S.AA (p.bZ.getD i default)) rfl ?_;refine⟨fun h8=>?_,fun h8=>?_⟩
  ·conv=>whnf
   exact ak.int (by rw[bD,h1,h2,h3,h4,h5,h6,ig (d:=default) hi' h8]; rfl)
  ·conv=>whnf
   refine .mk (by simp only[okI] at *; omega) ?_;refine⟨i+1,⟨by omega,?_⟩,by omega,⟨⟨_,rfl,rfl⟩,trivial⟩,?_,rfl⟩
   ·rw[jS (d:=default) hi' hall]; exact h8
   ·repeat' (first|exact trivial|exact⟨_,rfl,rfl⟩|constructor)
 have hi':p.bZ.length<=i:=by simpa using h7
 rw[List.take_of_length_le hi'] at hall;clear hi hi' h7;refine ah.pure (S.iY p.initial p.states.length false (by omega) ⟨by omega,by omega⟩) rfl ?_;refine⟨fun h7=>?_,fun h7=>?_⟩
 ·replace h7:=Uh h7
  have:yZ p=iW p.initial p.states.length:=fN h7
  exact ak.int (by rw[bD,h1,h2,h3,h4,h5,h6,hall,this,show(iW p.initial p.states.length !=0)=true by simpa using h7]; rfl)
 replace h7:=Dn h7;refine⟨fun h8=>?_,fun h8=>?_⟩
 ·replace h8:((p.initial.length:Int)==0)=true:=h8
  have:yZ p=1:=by rw[yZ,h7,h8]; rfl
  exact ak.int (by rw[bD,h1,h2,h3,h4,h5,h6,hall,this]; rfl)
 replace h8:((p.initial.length:Int)==0)=false:=h8;refine ah.pure (S.iY p.leader p.states.length false (by omega) ⟨by omega,by omega⟩) rfl ?_;refine⟨fun h9=>?_,fun h9=>?_⟩
 ·replace h9:=Uh h9
  have:yZ p=iW p.leader p.states.length:=by rw[yZ,h7,h8]; exact fN h9
  exact ak.int (by rw[bD,h1,h2,h3,h4,h5,h6,hall,this,show(iW p.leader p.states.length !=0)=true by simpa using h9]; rfl)
 replace h9:=Dn h9;have h10:yZ p=0:=by rw[yZ,h7,h8,h9]; rfl
 refine aA.same [1] (fun i:Nat=>[(8,.int i)]) (fun i=>i<=p.rules.length/\Eu p=bC (((List.range p.rules.length).drop i).map (gW p))) (fun i=>p.rules.length-i) 0 rfl (by decide) rfl (fun _=>rfl) ⟨by omega,by simp[Eu]⟩ ⟨⟨_,rfl,rfl⟩,trivial⟩ ?_;refine⟨rfl,?_⟩;rintro i ⟨hi,hr⟩;refine⟨fun h11=>?_,fun h11=>?_⟩
 ·have hi':i<p.rules.length:=by simpa using h11
  rw[MS hi'] at hr;simp only[bC] at hr;refine ah.pure (S.ZA p i hi' hp) rfl ?_;refine⟨fun h12=>?_,fun h12=>?_⟩
  ·conv=>whnf
   have ZQ:gW p i≠0:=Uh h12;rw[if_neg ZQ] at hr;exact ak.int (by rw[bD,h1,h2,h3,h4,h5,h6,hall,h10,hr,show(gW p i !=0)=true from h12]; rfl)
  ·conv=>whnf
   refine .mk (by simp only[okI] at *; omega) ?_;conv=>whnf
   have ZQ:gW p i=0:=Dn h12;rw[if_pos ZQ] at hr;refine⟨i+1,⟨by omega,hr⟩,by omega,⟨⟨_,rfl,rfl⟩,trivial⟩,?_,rfl⟩;repeat' (first|exact trivial|exact⟨_,rfl,rfl⟩|constructor)
 have hi':p.rules.length<=i:=by simpa using h11
 rw[List.drop_eq_nil_of_le (by simpa using hi')] at hr;refine ah.pure (S.tC p hp) rfl ?_;refine⟨fun h12=>?_,fun h12=>?_⟩
 ·conv=>whnf
  exact ak.int (by rw[bD,h1,h2,h3,h4,h5,h6,hall,h10,hr,show decide (((zM p.rules).length:Int)>3)=true from h12]; rfl)
 ·conv=>whnf
  exact ak.int (by rw[bD,h1,h2,h3,h4,h5,h6,hall,h10,hr,show decide (((zM p.rules).length:Int)>3)=false from h12]; rfl)
def Uj(p:aJ)(i:Nat):V:=.agg [.bool (((p.topology==1)&&((p.values.length:Int)==0))&&(p.rules.take i).foldl Uk true),.bool (rV p&& !((p.rules.take i).foldl QK false)),.bool ((p.topology==2)||(p.topology==3)),.bool (p.topology==4),.bool (rV p&&decide ((p.states.length:Int)<=4))]
def badR(r:Rule):Bool:=r.kind !=1||decide (r.fr>=r.to)||decide ((r.ex.length:Int)>0)||decide ((r.all.length:Int)>0)
theorem aep{acc:Bool}{r:Rule}(h:badR r=true):Uk acc r=false:=by
 simp only[badR,Bool.or_eq_true,bne_iff_ne,decide_eq_true_eq] at h;simp only[Uk];rw[Bool.eq_false_iff]; intro q;simp only[Bool.and_eq_true,beq_iff_eq,decide_eq_true_eq] at q;omega
theorem agc{acc:Bool}{r:Rule}(h:badR r=false):Uk acc r=acc:=by
 simp only[badR,Bool.or_eq_false_iff,bne_eq_false_iff_eq,decide_eq_false_iff_not] at h;obtain⟨⟨⟨a,b⟩,c⟩,d⟩:=h;simp only[Uk];rw[show(r.kind==1)=true from beq_iff_eq.2 a,decide_eq_true (by omega),show((r.ex.length:Int)==0)=true from beq_iff_eq.2 (by omega),show((r.all.length:Int)==0)=true from beq_iff_eq.2 (by omega)];simp
theorem ahS(p:aJ):Uj p 0= .agg [.bool ((p.topology==1)&&((p.values.length:Int)==0)),.bool (rV p),.bool ((p.topology==2)||(p.topology==3)),.bool (p.topology==4),.bool (rV p&&decide ((p.states.length:Int)<=4))]:=by
 simp[Uj]
theorem G9(p:aJ){i:Nat}(hi:i<p.rules.length):Uj p (i+1) =
  .agg [.bool (bif badR (p.rules.getD i default) then false else((p.topology==1)&&((p.values.length:Int)==0))&&(p.rules.take i).foldl Uk true),
   .bool (bif decide (((p.rules.getD i default).all.length:Int)>0) then false else rV p&& !((p.rules.take i).foldl QK false)),.bool ((p.topology==2)||(p.topology==3)),.bool (p.topology==4),.bool (rV p&&decide ((p.states.length:Int)<=4))]:=by
 simp only[Uj,Di (d:=default) hi];cases hb:badR (p.rules.getD i default) with
 |true =>
  rw[aep hb,QK];cases decide (((p.rules.getD i default).all.length:Int)>0)<;>simp
 |false =>
  rw[agc hb,QK];cases decide (((p.rules.getD i default).all.length:Int)>0)<;>simp
theorem S.pO(p:aJ)(hp:dW p):aj Tryz.prog 35 [.dat (.fQ p)] (IX p):=by
 have g1:=hp.states; have g2:=hp.messages; have g3:=hp.values; have g4:=hp.bZ; have g7:=hp.rules;refine aj.of Bd.pO (by simp) rfl rfl ?_;refine ah.pure (S.pJ p hp) rfl ?_;refine⟨fun h1=>?_,fun h1=>?_⟩
 ·conv=>whnf
  refine ak.eqv ?_;rw[IX,h1]; rfl
 have h1':bD p=0:=Dn h1;repeat(refine VC.mk (by first|exact id|(intro h; rw[h]; rfl)) ?_)
 refine aA.objs 100 [1,2,7] (fun i:Nat=>[(8,.int i)]) (fun i=>[(0,.box 27 11 (.dat (.fQ p))),(1,.box 68 6 (ahi J7)),(58,.box 68 6 (Uj p i))]) (fun i=>i<=p.rules.length) (fun i=>p.rules.length-i) 0 [0,1,58] rfl (by decide) (fun _=>rfl) (Nat.zero_le _) ?_ ?_ ?_
 ·exact(sR rfl)
 ·refine⟨dQ rfl rfl,dQ rfl rfl,⟨rfl,nofun,rfl,rfl,rfl,_,rfl,rfl,rfl,dU.of_eq ?_⟩,trivial⟩;rw[ahS]; rfl
 refine⟨(sR rfl),rfl,?_⟩;rintro i hi;have g8:=hp.rule i;have g9:=g8.ex; have g10:=g8.all;refine⟨fun h3=>?_,fun h3=>?_⟩
 ·have hi':i<p.rules.length:=by simpa using h3
  repeat(refine VC.mk (by first|exact id|exact fun h=>⟨h,h⟩|(intro h; rw[h]; rfl)|(simp only[Rw.rng] at *; omega)) ?_)
  refine⟨fun h4=>?_,fun h4=>?_⟩
  ·replace h4:badR (p.rules.getD i default)=true:=h4;refine⟨fun h5=>?_,fun h5=>?_⟩
   ·replace h5:decide (((p.rules.getD i default).all.length:Int)>0)=true:=h5;refine .mk (by simp only[okI] at *; omega) ?_;refine⟨i+1,[0,1,58],by omega,by omega,(sR rfl),(sR rfl),dQ rfl rfl,dQ rfl rfl,⟨rfl,nofun,rfl,rfl,rfl,_,rfl,rfl,rfl,dU.of_eq ?_⟩,trivial⟩;rw[G9 p hi',h4,h5]; rfl
   ·replace h5:decide (((p.rules.getD i default).all.length:Int)>0)=false:=h5;refine .mk (by simp only[okI] at *; omega) ?_;refine⟨i+1,[0,1,58],by omega,by omega,(sR rfl),(sR rfl),dQ rfl rfl,dQ rfl rfl,⟨rfl,nofun,rfl,rfl,rfl,_,rfl,rfl,rfl,dU.of_eq ?_⟩,trivial⟩;rw[G9 p hi',h4,h5]; rfl
  ·replace h4:badR (p.rules.getD i default)=false:=h4;refine⟨fun h5=>?_,fun h5=>?_⟩
   ·replace h5:decide (((p.rules.getD i default).all.length:Int)>0)=true:=h5;refine .mk (by simp only[okI] at *; omega) ?_;refine⟨i+1,[0,1,58],by omega,by omega,(sR rfl),(sR rfl),dQ rfl rfl,dQ rfl rfl,⟨rfl,nofun,rfl,rfl,rfl,_,rfl,rfl,rfl,dU.of_eq ?_⟩,trivial⟩;rw[G9 p hi',h4,h5]; rfl
   ·replace h5:decide (((p.rules.getD i default).all.length:Int)>0)=false:=h5;refine .mk (by simp only[okI] at *; omega) ?_;refine⟨i+1,[0,1,58],by omega,by omega,(sR rfl),(sR rfl),dQ rfl rfl,dQ rfl rfl,⟨rfl,nofun,rfl,rfl,rfl,_,rfl,rfl,rfl,dU.of_eq ?_⟩,trivial⟩;rw[G9 p hi',h4,h5]; rfl
 have hi':p.rules.length<=i:=by simpa using h3
 have e:i=p.rules.length:=Nat.le_antisymm hi hi';subst e;refine ak.eqv ?_;rw[IX,h1',iq];simp only[List.take_length];rfl
theorem Qu{x:Int}:(decide (x<0)||decide (1048576<x))= !(Bh x):=by
 unfold Bh; rw[Bool.eq_iff_iff]; simp
def XK(p:aJ):Int:=bif bD p !=0 then bD p else bif !(iq p).cover&& !(iq p).monadic then 7 else 0
def jU(p:aJ)(e:Elem):Bool:=((((e.counts.length:Int) !=p.states.length)|| !(e.counts.all Bh))||decide (e.value<0))||decide (e.value>=max 1 (p.values.length:Int))
def V9(p:aJ)(e:Elem):Int:=bif XK p !=0 then XK p else dM (jU p e) 1
theorem S.iT(p:aJ)(e:Elem)(hp:dW p)(he:e.counts.length<2^30):aj Tryz.prog 44 [.dat (.fQ p),.dat (.elem e)] (.int (dM (jU p e) 1)):=by
 have g1:=hp.states;have g3:=hp.values;refine aj.of Bd.iT (by simp) rfl rfl ?_;repeat(refine VC.mk id ?_)
 refine ah.fV (fun _=>S.kY e.counts false (by omega)) rfl ?_;repeat(refine VC.mk (by first|exact id|exact fun h=>⟨h,h⟩|(intro h; rw[h]; rfl)) ?_)
 refine⟨fun h1=>?_,fun h1=>?_⟩
 ·conv=>whnf
  exact ak.int (by rw[show jU p e=true from h1]; rfl)
 ·conv=>whnf
  exact ak.int (by rw[show jU p e=false from h1]; rfl)
theorem V5(p:aJ)(e:Elem):jU p e=(((((e.counts.length:Int) !=p.states.length)||decide (e.value<0))||decide (e.value>=max 1 (p.values.length:Int)))|| !(e.counts.all Bh)):=by
 unfold jU;cases ((e.counts.length:Int) !=p.states.length)<;>cases (e.counts.all Bh)<;>cases decide (e.value<0)<;>cases decide (e.value>=max 1 (p.values.length:Int))<;>rfl
theorem S.x8(p:aJ)(e:Elem)(hp:dW p)(he:e.counts.length<2^30):aj Tryz.prog 36 [.dat (.fQ p),.dat (.elem e)] (.bool (!(jU p e))):=by
 have g1:=hp.states;have g3:=hp.values;refine aj.of Bd.x8 (by simp) rfl rfl ?_;repeat(refine VC.mk (by first|exact id|exact fun h=>⟨h,h⟩|(intro h; rw[h]; rfl)) ?_)
 refine⟨fun h1=>?_,fun h1=>?_⟩
 ·conv=>whnf
  refine ak.bool ?_;rw[V5,show((((e.counts.length:Int) !=p.states.length)||decide (e.value<0))||decide (e.value>=max 1 (p.values.length:Int)))=true from h1]; rfl
 refine aA.same [2,3] (fun i:Nat=>[(5,.int i)]) (fun i=>i<=e.counts.length/\(e.counts.take i).all Bh=true) (fun i=>e.counts.length-i) 0 rfl (by decide) rfl (fun _=>rfl) ⟨by omega,by simp⟩ ⟨⟨_,rfl,rfl⟩,trivial⟩ ?_;refine⟨rfl,?_⟩;rintro i ⟨hi,hall⟩;refine⟨fun h3=>?_,fun h3=>?_⟩
 ·have hi':i<e.counts.length:=by simpa using h3
  repeat(refine VC.mk (by first|exact id|(intro h; rw[h]; rfl)|(intro h; (repeat' apply And.intro)<;>first|exact h|omega|(simp only[Rw.qH]; omega)|(simp only[Rw.rng]; omega))|(simp only[Rw.rng] at *; omega)) ?_)
  refine⟨fun h4=>?_,fun h4=>?_⟩
  ·conv=>whnf
   refine ak.bool ?_;replace h4:(decide (e.counts.getD i 0<0)||decide (1048576<e.counts.getD i 0))=true:=h4;rw[Qu] at h4;rw[V5,zT (d:=0) hi' (by simpa using h4)]; simp
  ·conv=>whnf
   refine .mk (by simp only[okI] at *; omega) ?_;conv=>whnf
   replace h4:(decide (e.counts.getD i 0<0)||decide (1048576<e.counts.getD i 0))=false:=h4;rw[Qu] at h4;refine⟨i+1,⟨by omega,?_⟩,by omega,⟨⟨_,rfl,rfl⟩,trivial⟩,?_,rfl⟩
   ·rw[Dp (d:=0) hi' hall]; simpa using h4
   ·repeat' (first|exact trivial|exact⟨_,rfl,rfl⟩|constructor)
 ·have hi':e.counts.length<=i:=by simpa using h3
  rw[List.take_of_length_le hi'] at hall;refine ak.bool ?_;rw[V5,hall,show((((e.counts.length:Int) !=p.states.length)||decide (e.value<0))||decide (e.value>=max 1 (p.values.length:Int)))=false from h1]; rfl
end Go.Proofs.YtkmldgihhaooaaaGreatDoor
