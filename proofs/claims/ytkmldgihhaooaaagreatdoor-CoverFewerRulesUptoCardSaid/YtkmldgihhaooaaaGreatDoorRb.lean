/-
 The two programs' rules for a protocol's rules say the same. No condition.
-/
import Derived.Test.YtkmldgihhaooaaaGreatDoorRa
import Derived.Test.YtkmldgihhaooaaaGreatDoorLg
namespace Go.Proofs.YtkmldgihhaooaaaGreatDoor
open Go.Ab Go.Proofs
theorem vX{x n:Int}:(!(ig x 0 (n-1)))=oI x n:=by rw[oO,Bool.not_not]
theorem vals_eq(p:aI)(r:Rule):zS p r=((decide (r.read< -1)||decide (r.read>=p.values.length))||(decide (r.write< -1)||decide (r.write>=p.values.length))):=by
 simp only[zS,vX,oI]
 rw[Bool.eq_iff_iff]; simp; omega
theorem aaF(a b:Bool)(v:Int)(r:List Int)(h:v≠0):aX (dB (a||b) v::r)=aX (dB a v::dB b v::r):=by
 cases a<;>cases b<;>simp[dB,aX,h]
theorem O7(p:aI)(l:List zJ)(r:List Int):aX (nH p l::r)=aX (gZ p l::dB (decide ((l.length:Int)>2)) 4::r):=by
 by_cases h:gZ p l=0
 ·rw[show nH p l=dB (decide ((l.length:Int)>2)) 4 from if_pos h,h]; rfl
 ·rw[show nH p l=gZ p l from if_neg h,fN h,fN h]
theorem NK{c d:Bool}:(bif c then true else d)=(c||d):=by cases c<;>rfl
theorem len_nil{α:Type}{l:List α}(h:decide ((l.length:Int)>0)=false):l=[]:=by
 cases l with
 |nil=>rfl
 |cons a r=>simp at h
theorem LV{r:Rule}{t:Int}(h:kN r t=false) :
  (r.kind≠1->r.guards=[]/\r.ex=[]/\r.all=[]/\r.send=[])/\(r.kind≠1->r.kind≠2->r.kind≠3->r.read= -1/\r.write= -1) /\
  (r.kind≠3->r.response=[])/\(r.kind≠5->r.direction=0)/\(r.kind≠4->r.pos=0/\r.left=[]/\r.right=[])/\(¬(r.kind=4/\t=4)->r.parent=[]):=by
 simp only[kN,NK,Bool.or_eq_false_iff] at h
 obtain⟨h1,h2,h3,⟨h4,h5⟩,h6,h7⟩:=h
 refine⟨fun k=>?_,fun k1 k2 k3=>?_,fun k=>?_,fun k=>?_,fun k=>?_,fun k=>?_⟩
 ·simp only[beq_eq_false_iff_ne.2 k,Bool.not_false,Bool.true_and,Bool.or_eq_false_iff] at h1
  exact⟨len_nil h1.1.1.1,len_nil h1.1.1.2,len_nil h1.1.2,len_nil h1.2⟩
 ·simp only[beq_eq_false_iff_ne.2 k1,beq_eq_false_iff_ne.2 k2,beq_eq_false_iff_ne.2 k3,Bool.not_false,Bool.true_and,Bool.or_eq_false_iff] at h2
  exact⟨SX h2.1,SX h2.2⟩
 ·simp only[beq_eq_false_iff_ne.2 k,Bool.not_false,Bool.true_and] at h4
  exact len_nil h4
 ·simp only[beq_eq_false_iff_ne.2 k,Bool.not_false,Bool.true_and] at h5
  exact SX h5
 ·simp only[beq_eq_false_iff_ne.2 k,Bool.not_false,Bool.true_and,Bool.or_eq_false_iff] at h6
  exact⟨SX h6.1.1,len_nil h6.1.2,len_nil h6.2⟩
 ·refine len_nil ?_
  rw[Bool.and_eq_false_iff] at h7
  rcases h7 with h7|h7
  ·exact h7
  ·simp only[Bool.not_eq_false',Bool.and_eq_true,beq_iff_eq] at h7
   exact absurd h7 k
theorem kind_eq{r:Rule}{t:Int}:((!(ig r.kind 1 5)||(decide (r.kind<=3) !=(t==1)))||kN r t)=(!(rX r.kind t)||jM r t):=by
 by_cases hk:1<=r.kind/\r.kind<=5
 ·rw[vT hk]
  congr 1
  have hk':r.kind=1\/r.kind=2\/r.kind=3\/r.kind=4\/r.kind=5:=by omega
  rcases hk' with e|e|e|e|e<;>rw[e]<;>cases ht:(t==1)<;>simp[ig,rX,ht]
 ·have h1:ig r.kind 1 5=false:=by rw[ig,Bool.and_eq_false_iff]; simp; omega
  have h2:rX r.kind t=false:=by
   have:r.kind≠1/\r.kind≠2/\r.kind≠3/\r.kind≠4/\r.kind≠5:=by omega
   obtain⟨a,b,c,d,e⟩:=this
   simp[rX,a,b,c,d,e]
  rw[h1,h2]; rfl
theorem Ij(p:aI)(r:Rule):(tX p r !=0)=(oI r.fr p.states.length||oI r.to p.states.length):=by
 simp only[tX,bH]
 cases oI r.fr p.states.length<;>cases oI r.to p.states.length<;>rfl
theorem aek(p:aI)(r:Rule)(h:(tX p r !=0)=true):tX p r=5:=by
 rw[Ij] at h
 simp only[tX,bH]
 revert h
 cases oI r.fr p.states.length<;>cases oI r.to p.states.length<;>intro h<;>first|rfl|cases h
theorem Bj(n:Int):fV [] n=0:=rfl
theorem X6(x:Int):aX [x,0,0,0,0,0,0]=aX [x]:=by
 simp only[aX]; simp
theorem Dj{a:Int}{X Y:List Int}(h:aX X=aX Y):aX (a::X)=aX (a::Y):=by simp only[aX,h]
theorem UM(x:Int):aX [x,0,0,0,0,0,0,0]=aX [x]:=by
 simp only[aX]; simp
theorem UN(x:Int):aX [x,0,0]=aX [x]:=by
 simp only[aX]; simp
theorem KJ(p:aI)(r:Rule):aX [dB (zS p r) 5,0,0,0,0,0,0,0]=aX [gY p r.read,gY p r.write]:=by
 rw[vals_eq,aaF _ _ _ _ (by decide)]
 exact Dj (UM _)
theorem aaG(p:aI)(i:Nat):yU p i=fO p i:=by
 simp only[yU,fO,kM,qU]
 generalize p.rules.getD i default=r
 cases hv:validName r.name with
 |false=>rfl
 |true =>
 cases ha:(p.rules.take i).any (fun x=>x.name==r.name) with
 |true=>rfl
 |false =>
 simp only[Ib,kind_eq,Bool.not_true,Bool.or_false,cond_false]
 cases hk:(!(rX r.kind p.topology)||jM r p.topology) with
 |true=>rfl
 |false =>
 have hk2:=hk
 rw[<- kind_eq,Bool.or_eq_false_iff,Bool.or_eq_false_iff,Bool.not_eq_false'] at hk2
 obtain⟨⟨k1,_⟩,k2⟩:=hk2
 obtain⟨u1,u2,u3,u4,u5,u6⟩:=LV k2
 have hk':r.kind=1\/r.kind=2\/r.kind=3\/r.kind=4\/r.kind=5:=by
  simp only[ig,Bool.and_eq_true,decide_eq_true_eq] at k1; omega
 cases he:(tX p r !=0) with
 |true =>
  rw[aek p r he]
  rw[Ij] at he
  simp only[Ia,vX,he]; rfl
 |false =>
 rw[Ij] at he
 simp only[Ia,vX,he,Bool.false_or,cond_false]
 rcases hk' with e|e|e|e|e
 ·have a5:=u5 (by omega)
  have m4:D8 p r=false:=by simp[D8,e]
  have d1:D9 p r=false:=by simp[D9,e]
  have d2:Ea p r=false:=by simp[Ea,e]
  simp only[iD,m4,d1,d2,a5.2.1,a5.2.2,u6 (by omega),e,Bj,Int.reduceBEq,Bool.or_self,Bool.false_and,cond_false,cond_true]
  rw[O7]
  refine Dj (Dj (Dj (Dj ?_)))
  rw[vals_eq,aaF _ _ _ _ (by decide)]
  refine Dj (Dj ?_)
  exact X6 _
 ·obtain⟨g1,g2,g3,g4⟩:=u1 (by omega)
  have a5:=u5 (by omega)
  have m4:D8 p r=false:=by simp[D8,e]
  have d1:D9 p r=false:=by simp[D9,e]
  have d2:Ea p r=false:=by simp[Ea,e]
  simp only[iD,m4,d1,d2,g1,g2,g3,g4,a5.2.1,a5.2.2,u6 (by omega),e,Bj,Int.reduceBEq,Bool.or_false,Bool.true_and,cond_false,cond_true,bH]
  cases oI r.jE p.states.length with
  |true=>rfl
  |false =>
   cases oI r.zX p.states.length with
   |true=>rfl
   |false=>exact KJ p r
 ·obtain⟨g1,g2,g3,g4⟩:=u1 (by omega)
  have a5:=u5 (by omega)
  have m4:D8 p r=false:=by simp[D8,e]
  have d1:D9 p r=false:=by simp[D9,e]
  have d2:Ea p r=false:=by simp[Ea,e]
  simp only[iD,m4,d1,d2,g1,g2,g3,g4,a5.2.1,a5.2.2,u6 (by omega),e,Bj,Int.reduceBEq,Bool.or_self,Bool.false_and,cond_false,cond_true,CJ]
  cases ((r.response.length:Int) !=p.states.length) with
  |true=>rfl
  |false =>
   simp only[cond_false]
   by_cases hz:pV r.response p.states.length=0
   ·rw[hz]; exact KJ p r
   ·rw[show(pV r.response p.states.length !=0)=true by simpa using hz,fN hz]; rfl
 ·obtain⟨g1,g2,g3,g4⟩:=u1 (by omega)
  obtain⟨v1,v2⟩:=u2 (by omega) (by omega) (by omega)
  have m4:D8 p r=V7 p r:=by
   simp only[D8,V7,e,oJ]; rfl
  have d1:D9 p r=false:=by simp[D9,e]
  have d2:Ea p r=false:=by simp[Ea,e]
  have vv:zS p r=false:=by simp[zS,v1,v2]
  simp only[iD,m4,d1,d2,vv,g1,g2,g3,g4,e,Bj,Int.reduceBEq,Bool.or_self,Bool.false_and,cond_false,cond_true]
  exact Dj (Dj (Dj (UN _)))
 ·obtain⟨g1,g2,g3,g4⟩:=u1 (by omega)
  obtain⟨v1,v2⟩:=u2 (by omega) (by omega) (by omega)
  have a5:=u5 (by omega)
  have m4:D8 p r=false:=by simp[D8,e]
  have vv:zS p r=false:=by simp[zS,v1,v2]
  have d1:D9 p r=((p.topology==4)&&(decide (r.direction<3)||decide (r.direction>4))):=by
   simp only[D9,e,oJ]; rfl
  have d2:Ea p r=(!(p.topology==4)&&(decide (r.direction<1)||decide (r.direction>2))):=by
   simp only[Ea,e,oJ]; rfl
  simp only[iD,m4,d1,d2,vv,g1,g2,g3,g4,a5.2.1,a5.2.2,u6 (by omega),e,Bj,Int.reduceBEq,Bool.or_true,Bool.true_and,cond_false,bH]
  cases oI r.jE p.states.length with
  |true=>cases (p.topology==4)<;>rfl
  |false =>
   cases oI r.zX p.states.length with
   |true=>cases (p.topology==4)<;>rfl
   |false =>
    cases (p.topology==4) with
    |true=>cases (decide (r.direction<3)||decide (r.direction>4))<;>rfl
    |false=>cases (decide (r.direction<1)||decide (r.direction>2))<;>rfl
theorem aaH{p:aI}:(!(ig p.topology 1 4)|| !(ig p.fault 0 3))=sH p:=by
 simp only[oJ,sH,Bool.or_assoc]
theorem S.X7(p:aI)(i:Nat)(hi:i<p.rules.length)(hp:fA p):aj Tryz.prog 103 [.dat (.iF p),.int i] (.int (fO p i)):=by
 rw[<- aaG]; exact S.Bh p i hi hp
theorem aft{h:Hz}{j:Nat}{Z:Nat->Prop}{l:List Str}(hz:Z j)(q:h.get j=some (.row 9 0 (.strs l) [])):T.sub Z h.au (V.row 0 false (.strs l)).aG (V.own j).aG:=by
 show T.sub Z h.au (.sl 0 false (l.map eS)) (.own j)
 simp only[T.sub]
 refine⟨trivial,hz,?_,by decide,9,?_⟩
 ·rw[gK]; intro t ht; obtain⟨x,_,rfl⟩:=List.mem_map.1 ht; rfl
 ·have:=aP q
  rw[this]; simp[OV.aA,Rw.aV,V.aV]
theorem S.qW(p:aI)(hp:fA p):aj Tryz.prog 65 [.dat (.iF p)] (.int (bF p)):=by
 have g1:=hp.states; have g2:=hp.messages; have g3:=hp.values; have g4:=hp.bW; have g5:=hp.initial; have g6:=hp.leader; have g7:=hp.rules
 refine aj.of Bd.qW (by simp) rfl rfl ?_
 conv=>whnf
 refine ah.pure (S.jF p.name) rfl ?_
 conv=>whnf
 refine⟨fun h1=>?_,fun h1=>?_⟩
 ·conv=>whnf
  exact ak.int (by rw[bF,h1]; rfl)
 conv=>whnf
 refine ah.pure (S.aY p.topology 1 4) rfl ?_
 conv=>whnf
 repeat(refine VC.mk id ?_; conv=>whnf)
 refine ah.fM (fun _=>S.aY p.fault 0 3) rfl ?_
 conv=>whnf
 repeat(refine VC.mk (by first|exact id|(intro h; rw[h]; rfl)) ?_; conv=>whnf)
 refine⟨fun h2=>?_,fun h2=>?_⟩
 ·conv=>whnf
  rw[aaH] at h2
  exact ak.int (by rw[bF,h1,h2]; rfl)
 rw[aaH] at h2
 conv=>whnf
 refine⟨fun h3=>?_,fun h3=>?_⟩
 ·conv=>whnf
  exact ak.int (by rw[bF,h1,h2,show((p.states.length:Int)==0)=true from h3]; rfl)
 replace h3:((p.states.length:Int)==0)=false:=h3
 conv=>whnf
 repeat(refine VC.mk (by first|exact id|(intro h; rw[h]; rfl)) ?_; conv=>whnf)
 refine⟨fun h4=>?_,fun h4=>?_⟩
 ·conv=>whnf
  exact ak.int (by rw[bF,h1,h2,h3,show qR p=true from h4]; rfl)
 replace h4:qR p=false:=h4
 have h0:0<p.states.length:=by
  rcases Nat.eq_zero_or_pos p.states.length with e|e
  ·rw[e] at h3; exact absurd h3 (by decide)
  ·exact e
 have hlen:(allNames p).length<2^30:=by simp only[allNames,List.length_append]; omega
 conv=>whnf
 repeat(refine VC.mk (by simp only[nI,nU,Rw.len,List.length_append]; omega) ?_; conv=>whnf)
 refine aH.fz 3 57 0 (.strs (allNames p)) rfl rfl (aft rfl rfl) ?_
 conv=>whnf
 refine aH.same [1,3] (fun i:Nat=>[(4,.int i)]) (fun i=>i<=(allNames p).length/\(List.range i).any (O8 (allNames p))=false) (fun i=>(allNames p).length-i) 0 rfl (by decide) rfl (fun _=>rfl) ⟨Nat.zero_le _,rfl⟩ ⟨⟨_,rfl,rfl⟩,trivial⟩ ?_
 conv=>whnf
 refine⟨rfl,?_⟩
 rintro i ⟨hi,hall⟩
 conv=>whnf
 refine⟨fun h5=>?_,fun h5=>?_⟩
 ·have hi':i<(allNames p).length:=by have:(i:Int)<((allNames p).length:Int):=of_decide_eq_true h5; omega
  conv=>whnf
  refine .mk (by simp only[Rw.rng] at *; omega) ?_
  conv=>whnf
  refine ah.pure (S.jF ((allNames p).getD i [])) rfl ?_
  conv=>whnf
  repeat(refine VC.mk (by first|exact id|exact fun h=>⟨h,h⟩|(intro h; (repeat' apply And.intro)<;>first|exact h|omega|(simp only[Rw.rV]; omega)|(simp only[Rw.rng]; omega))) ?_; conv=>whnf)
  refine ah.fM (fun _=>S.qJ ((allNames p).take i) ((allNames p).getD i []) _ (by rw[List.length_take]; omega)) rfl ?_
  conv=>whnf
  refine .mk (by intro h; rw[h]; rfl) ?_
  conv=>whnf
  refine⟨fun h6=>?_,fun h6=>?_⟩
  ·conv=>whnf
   refine ak.int ?_
   rw[bF,h1,h2,h3,h4,show vV p=2 by rw[vV,Bo.2 ⟨i,hi',h6⟩]; rfl]; rfl
  ·conv=>whnf
   refine .mk (by simp only[okI] at *; omega) ?_
   conv=>whnf
   refine⟨i+1,⟨by omega,?_⟩,by omega,⟨⟨_,rfl,rfl⟩,trivial⟩,?_,rfl⟩
   ·rw[List.range_succ,List.any_append,hall]
    simp only[List.any_cons,List.any_nil,Bool.or_false,Bool.false_or]; exact h6
   ·repeat' (first|exact trivial|exact⟨_,rfl,rfl⟩|constructor)
 have hi':(allNames p).length<=i:=by have: ¬ ((i:Int)<((allNames p).length:Int)):=of_decide_eq_false h5; omega
 have e:i=(allNames p).length:=Nat.le_antisymm hi hi'
 subst e
 have h5:vV p=0:=by rw[vV,hall]; rfl
 clear hi hall hi' hlen
 conv=>whnf
 repeat(refine VC.mk (by first|exact id|(intro h; rw[h]; rfl)|(intro h; simp[h]; done)|(intro h; simp_all; done)) ?_; conv=>whnf)
 refine⟨fun h6=>?_,fun h6=>?_⟩
 ·conv=>whnf
  exact ak.int (by rw[bF,h1,h2,h3,h4,h5,show NM p=true from h6]; rfl)
 replace h6:NM p=false:=h6
 conv=>whnf
 refine aH.same [1] (fun i:Nat=>[(5,.int i)]) (fun i=>i<=p.bW.length/\(p.bW.take i).any (fun l=> !(NP l))=false) (fun i=>p.bW.length-i) 0 rfl (by decide) rfl (fun _=>rfl) ⟨by omega,by simp⟩ ⟨⟨_,rfl,rfl⟩,trivial⟩ ?_
 conv=>whnf
 refine⟨rfl,?_⟩
 rintro i ⟨hi,hall⟩
 conv=>whnf
 refine⟨fun h7=>?_,fun h7=>?_⟩
 ·have hi':i<p.bW.length:=by simpa using h7
  conv=>whnf
  refine .mk (by simp only[Rw.rng] at *; omega) ?_
  conv=>whnf
  refine ah.pure (S.zH (p.bW.getD i default)) rfl ?_
  conv=>whnf
  refine⟨fun h8=>?_,fun h8=>?_⟩
  ·conv=>whnf
   exact ak.int (by rw[bF,h1,h2,h3,h4,h5,h6,jm (d:=default) hi' h8]; rfl)
  ·conv=>whnf
   refine .mk (by simp only[okI] at *; omega) ?_
   conv=>whnf
   refine⟨i+1,⟨by omega,?_⟩,by omega,⟨⟨_,rfl,rfl⟩,trivial⟩,?_,rfl⟩
   ·rw[lg (d:=default) hi' hall]; exact h8
   ·repeat' (first|exact trivial|exact⟨_,rfl,rfl⟩|constructor)
 have hi':p.bW.length<=i:=by simpa using h7
 rw[List.take_of_length_le hi'] at hall
 clear hi hi' h7
 conv=>whnf
 refine ah.pure (S.iR p.initial p.states.length false (by omega) ⟨by omega,by omega⟩) rfl ?_
 conv=>whnf
 refine⟨fun h7=>?_,fun h7=>?_⟩
 ·replace h7:=RZ h7
  have:vW p=fV p.initial p.states.length:=fN h7
  conv=>whnf
  exact ak.int (by rw[bF,h1,h2,h3,h4,h5,h6,hall,this,show(fV p.initial p.states.length !=0)=true by simpa using h7]; rfl)
 replace h7:=Ce h7
 conv=>whnf
 refine⟨fun h8=>?_,fun h8=>?_⟩
 ·replace h8:((p.initial.length:Int)==0)=true:=h8
  have:vW p=1:=by rw[vW,h7,h8]; rfl
  conv=>whnf
  exact ak.int (by rw[bF,h1,h2,h3,h4,h5,h6,hall,this]; rfl)
 replace h8:((p.initial.length:Int)==0)=false:=h8
 conv=>whnf
 refine ah.pure (S.iR p.leader p.states.length false (by omega) ⟨by omega,by omega⟩) rfl ?_
 conv=>whnf
 refine⟨fun h9=>?_,fun h9=>?_⟩
 ·replace h9:=RZ h9
  have:vW p=fV p.leader p.states.length:=by rw[vW,h7,h8]; exact fN h9
  conv=>whnf
  exact ak.int (by rw[bF,h1,h2,h3,h4,h5,h6,hall,this,show(fV p.leader p.states.length !=0)=true by simpa using h9]; rfl)
 replace h9:=Ce h9
 have h10:vW p=0:=by rw[vW,h7,h8,h9]; rfl
 conv=>whnf
 refine aH.same [1] (fun i:Nat=>[(8,.int i)]) (fun i=>i<=p.rules.length/\vU p=aX (((List.range p.rules.length).drop i).map (fO p))) (fun i=>p.rules.length-i) 0 rfl (by decide) rfl (fun _=>rfl) ⟨by omega,by simp[vU]⟩ ⟨⟨_,rfl,rfl⟩,trivial⟩ ?_
 conv=>whnf
 refine⟨rfl,?_⟩
 rintro i ⟨hi,hr⟩
 conv=>whnf
 refine⟨fun h11=>?_,fun h11=>?_⟩
 ·have hi':i<p.rules.length:=by simpa using h11
  rw[KL hi'] at hr
  simp only[aX] at hr
  conv=>whnf
  refine ah.pure (S.X7 p i hi' hp) rfl ?_
  conv=>whnf
  refine⟨fun h12=>?_,fun h12=>?_⟩
  ·conv=>whnf
   have Yw:fO p i≠0:=RZ h12
   rw[if_neg Yw] at hr
   exact ak.int (by rw[bF,h1,h2,h3,h4,h5,h6,hall,h10,hr,show(fO p i !=0)=true from h12]; rfl)
  ·conv=>whnf
   refine .mk (by simp only[okI] at *; omega) ?_
   conv=>whnf
   have Yw:fO p i=0:=Ce h12
   rw[if_pos Yw] at hr
   refine⟨i+1,⟨by omega,hr⟩,by omega,⟨⟨_,rfl,rfl⟩,trivial⟩,?_,rfl⟩
   repeat' (first|exact trivial|exact⟨_,rfl,rfl⟩|constructor)
 have hi':p.rules.length<=i:=by simpa using h11
 rw[List.drop_eq_nil_of_le (by simpa using hi')] at hr
 conv=>whnf
 refine ah.pure (S.rU p hp) rfl ?_
 conv=>whnf
 refine⟨fun h12=>?_,fun h12=>?_⟩
 ·conv=>whnf
  exact ak.int (by rw[bF,h1,h2,h3,h4,h5,h6,hall,h10,hr,show decide (((uP p.rules).length:Int)>3)=true from h12]; rfl)
 ·conv=>whnf
  exact ak.int (by rw[bF,h1,h2,h3,h4,h5,h6,hall,h10,hr,show decide (((uP p.rules).length:Int)>3)=false from h12]; rfl)
end Go.Proofs.YtkmldgihhaooaaaGreatDoor
namespace Go.Proofs.YtkmldgihhaooaaaGreatDoor
open Go.Ab Go.Proofs
set_option maxRecDepth 100000
theorem acy{x:Int}:(decide (x<0)||decide (1048576<x))= !(BZ x):=by
 unfold BZ; rw[Bool.eq_iff_iff]; simp
def Wj(p:aI):Int:=bif bF p !=0 then bF p else bif !(jA p).cover&& !(jA p).monadic then 7 else 0
def qL(p:aI)(e:Elem):Bool:=((((e.counts.length:Int) !=p.states.length)|| !(e.counts.all BZ))||decide (e.value<0))||decide (e.value>=max 1 (p.values.length:Int))
def UZ(p:aI)(e:Elem):Int:=bif Wj p !=0 then Wj p else dB (qL p e) 1
theorem S.iP(p:aI)(e:Elem)(hp:fA p)(he:e.counts.length<2^30):aj Tryz.prog 44 [.dat (.iF p),.dat (.elem e)] (.int (dB (qL p e) 1)):=by
 have g1:=hp.states
 have g3:=hp.values
 refine aj.of Bd.iP (by simp) rfl rfl ?_
 conv=>whnf
 repeat(refine VC.mk id ?_; conv=>whnf)
 refine ah.fM (fun _=>S.kV e.counts false (by omega)) rfl ?_
 conv=>whnf
 repeat(refine VC.mk (by first|exact id|exact fun h=>⟨h,h⟩|(intro h; rw[h]; rfl)) ?_; conv=>whnf)
 refine⟨fun h1=>?_,fun h1=>?_⟩
 ·conv=>whnf
  exact ak.int (by rw[show qL p e=true from h1]; rfl)
 ·conv=>whnf
  exact ak.int (by rw[show qL p e=false from h1]; rfl)
end Go.Proofs.YtkmldgihhaooaaaGreatDoor
