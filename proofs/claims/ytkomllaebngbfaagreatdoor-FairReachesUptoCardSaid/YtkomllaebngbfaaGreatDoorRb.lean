/-
 The two programs' rules for a protocol's rules say the same. No condition.
-/
import Derived.Test.YtkomllaebngbfaaGreatDoorRa
import Derived.Test.YtkomllaebngbfaaGreatDoorLg
namespace Go.Proofs.YtkomllaebngbfaaGreatDoor
open Go.Ab Go.Proofs
theorem vK{x n:Int}:(!(iI x 0 (n-1)))=oO x n:=by rw[oh,Bool.not_not]
theorem vals_eq(p:aN)(r:Rule):zH p r=((decide (r.read< -1)||decide (r.read>=p.values.length))||(decide (r.write< -1)||decide (r.write>=p.values.length))):=by
 simp only[zH,vK,oO]
 rw[Bool.eq_iff_iff]; simp; omega
theorem aaq(a b:Bool)(v:Int)(r:List Int)(h:v≠0):bJ (fG (a||b) v::r)=bJ (fG a v::fG b v::r):=by
 cases a<;>cases b<;>simp[fG,bJ,h]
theorem Oz(p:aN)(l:List zJ)(r:List Int):bJ (wY p l::r)=bJ (kF p l::fG (decide ((l.length:Int)>2)) 4::r):=by
 by_cases h:kF p l=0
 ·rw[show wY p l=fG (decide ((l.length:Int)>2)) 4 from if_pos h,h]; rfl
 ·rw[show wY p l=kF p l from if_neg h,fN h,fN h]
theorem MQ{c d:Bool}:(bif c then true else d)=(c||d):=by cases c<;>rfl
theorem len_nil{α:Type}{l:List α}(h:decide ((l.length:Int)>0)=false):l=[]:=by
 cases l with
 |nil=>rfl
 |cons a r=>simp at h
theorem Le{r:Rule}{t:Int}(h:kM r t=false) :
  (r.kind≠1->r.guards=[]/\r.ex=[]/\r.all=[]/\r.send=[])/\(r.kind≠1->r.kind≠2->r.kind≠3->r.read= -1/\r.write= -1) /\
  (r.kind≠3->r.response=[])/\(r.kind≠5->r.direction=0)/\(r.kind≠4->r.pos=0/\r.left=[]/\r.right=[])/\(¬(r.kind=4/\t=4)->r.parent=[]):=by
 simp only[kM,MQ,Bool.or_eq_false_iff] at h
 obtain⟨h1,h2,h3,⟨h4,h5⟩,h6,h7⟩:=h
 refine⟨fun k=>?_,fun k1 k2 k3=>?_,fun k=>?_,fun k=>?_,fun k=>?_,fun k=>?_⟩
 ·simp only[beq_eq_false_iff_ne.2 k,Bool.not_false,Bool.true_and,Bool.or_eq_false_iff] at h1
  exact⟨len_nil h1.1.1.1,len_nil h1.1.1.2,len_nil h1.1.2,len_nil h1.2⟩
 ·simp only[beq_eq_false_iff_ne.2 k1,beq_eq_false_iff_ne.2 k2,beq_eq_false_iff_ne.2 k3,Bool.not_false,Bool.true_and,Bool.or_eq_false_iff] at h2
  exact⟨Si h2.1,Si h2.2⟩
 ·simp only[beq_eq_false_iff_ne.2 k,Bool.not_false,Bool.true_and] at h4
  exact len_nil h4
 ·simp only[beq_eq_false_iff_ne.2 k,Bool.not_false,Bool.true_and] at h5
  exact Si h5
 ·simp only[beq_eq_false_iff_ne.2 k,Bool.not_false,Bool.true_and,Bool.or_eq_false_iff] at h6
  exact⟨Si h6.1.1,len_nil h6.1.2,len_nil h6.2⟩
 ·refine len_nil ?_
  rw[Bool.and_eq_false_iff] at h7
  rcases h7 with h7|h7
  ·exact h7
  ·simp only[Bool.not_eq_false',Bool.and_eq_true,beq_iff_eq] at h7
   exact absurd h7 k
theorem kind_eq{r:Rule}{t:Int}:((!(iI r.kind 1 5)||(decide (r.kind<=3) !=(t==1)))||kM r t)=(!(sU r.kind t)||kW r t):=by
 by_cases hk:1<=r.kind/\r.kind<=5
 ·rw[vw hk]
  congr 1
  have hk':r.kind=1\/r.kind=2\/r.kind=3\/r.kind=4\/r.kind=5:=by omega
  rcases hk' with e|e|e|e|e<;>rw[e]<;>cases ht:(t==1)<;>simp[iI,sU,ht]
 ·have h1:iI r.kind 1 5=false:=by rw[iI,Bool.and_eq_false_iff]; simp; omega
  have h2:sU r.kind t=false:=by
   have:r.kind≠1/\r.kind≠2/\r.kind≠3/\r.kind≠4/\r.kind≠5:=by omega
   obtain⟨a,b,c,d,e⟩:=this
   simp[sU,a,b,c,d,e]
  rw[h1,h2]; rfl
theorem GY(p:aN)(r:Rule):(wB p r !=0)=(oO r.fr p.states.length||oO r.to p.states.length):=by
 simp only[wB,dH]
 cases oO r.fr p.states.length<;>cases oO r.to p.states.length<;>rfl
theorem aeL(p:aN)(r:Rule)(h:(wB p r !=0)=true):wB p r=5:=by
 rw[GY] at h
 simp only[wB,dH]
 revert h
 cases oO r.fr p.states.length<;>cases oO r.to p.states.length<;>intro h<;>first|rfl|cases h
theorem AL(n:Int):jJ [] n=0:=rfl
theorem Xt(x:Int):bJ [x,0,0,0,0,0,0]=bJ [x]:=by
 simp only[bJ]; simp
theorem Ce{a:Int}{X Y:List Int}(h:bJ X=bJ Y):bJ (a::X)=bJ (a::Y):=by simp only[bJ,h]
theorem Uh(x:Int):bJ [x,0,0,0,0,0,0,0]=bJ [x]:=by
 simp only[bJ]; simp
theorem Ui(x:Int):bJ [x,0,0]=bJ [x]:=by
 simp only[bJ]; simp
theorem JO(p:aN)(r:Rule):bJ [fG (zH p r) 5,0,0,0,0,0,0,0]=bJ [jV p r.read,jV p r.write]:=by
 rw[vals_eq,aaq _ _ _ _ (by decide)]
 exact Ce (Uh _)
theorem aar(p:aN)(i:Nat):yQ p i=iC p i:=by
 simp only[yQ,iC,qW,oV]
 generalize p.rules.getD i default=r
 cases hv:validName r.name with
 |false=>rfl
 |true =>
 cases ha:(p.rules.take i).any (fun x=>x.name==r.name) with
 |true=>rfl
 |false =>
 simp only[Gz,kind_eq,Bool.not_true,Bool.or_false,cond_false]
 cases hk:(!(sU r.kind p.topology)||kW r p.topology) with
 |true=>rfl
 |false =>
 have hk2:=hk
 rw[<- kind_eq,Bool.or_eq_false_iff,Bool.or_eq_false_iff,Bool.not_eq_false'] at hk2
 obtain⟨⟨k1,_⟩,k2⟩:=hk2
 obtain⟨u1,u2,u3,u4,u5,u6⟩:=Le k2
 have hk':r.kind=1\/r.kind=2\/r.kind=3\/r.kind=4\/r.kind=5:=by
  simp only[iI,Bool.and_eq_true,decide_eq_true_eq] at k1; omega
 cases he:(wB p r !=0) with
 |true =>
  rw[aeL p r he]
  rw[GY] at he
  simp only[Gy,vK,he]; rfl
 |false =>
 rw[GY] at he
 simp only[Gy,vK,he,Bool.false_or,cond_false]
 rcases hk' with e|e|e|e|e
 ·have a5:=u5 (by omega)
  have m4:Dq p r=false:=by simp[Dq,e]
  have d1:Dt p r=false:=by simp[Dt,e]
  have d2:Du p r=false:=by simp[Du,e]
  simp only[iL,m4,d1,d2,a5.2.1,a5.2.2,u6 (by omega),e,AL,Int.reduceBEq,Bool.or_self,Bool.false_and,cond_false,cond_true]
  rw[Oz]
  refine Ce (Ce (Ce (Ce ?_)))
  rw[vals_eq,aaq _ _ _ _ (by decide)]
  refine Ce (Ce ?_)
  exact Xt _
 ·obtain⟨g1,g2,g3,g4⟩:=u1 (by omega)
  have a5:=u5 (by omega)
  have m4:Dq p r=false:=by simp[Dq,e]
  have d1:Dt p r=false:=by simp[Dt,e]
  have d2:Du p r=false:=by simp[Du,e]
  simp only[iL,m4,d1,d2,g1,g2,g3,g4,a5.2.1,a5.2.2,u6 (by omega),e,AL,Int.reduceBEq,Bool.or_false,Bool.true_and,cond_false,cond_true,dH]
  cases oO r.gI p.states.length with
  |true=>rfl
  |false =>
   cases oO r.AO p.states.length with
   |true=>rfl
   |false=>exact JO p r
 ·obtain⟨g1,g2,g3,g4⟩:=u1 (by omega)
  have a5:=u5 (by omega)
  have m4:Dq p r=false:=by simp[Dq,e]
  have d1:Dt p r=false:=by simp[Dt,e]
  have d2:Du p r=false:=by simp[Du,e]
  simp only[iL,m4,d1,d2,g1,g2,g3,g4,a5.2.1,a5.2.2,u6 (by omega),e,AL,Int.reduceBEq,Bool.or_self,Bool.false_and,cond_false,cond_true,D6]
  cases ((r.response.length:Int) !=p.states.length) with
  |true=>rfl
  |false =>
   simp only[cond_false]
   by_cases hz:pJ r.response p.states.length=0
   ·rw[hz]; exact JO p r
   ·rw[show(pJ r.response p.states.length !=0)=true by simpa using hz,fN hz]; rfl
 ·obtain⟨g1,g2,g3,g4⟩:=u1 (by omega)
  obtain⟨v1,v2⟩:=u2 (by omega) (by omega) (by omega)
  have m4:Dq p r=aas p r:=by
   simp only[Dq,aas,e,nZ]; rfl
  have d1:Dt p r=false:=by simp[Dt,e]
  have d2:Du p r=false:=by simp[Du,e]
  have vv:zH p r=false:=by simp[zH,v1,v2]
  simp only[iL,m4,d1,d2,vv,g1,g2,g3,g4,e,AL,Int.reduceBEq,Bool.or_self,Bool.false_and,cond_false,cond_true]
  exact Ce (Ce (Ce (Ui _)))
 ·obtain⟨g1,g2,g3,g4⟩:=u1 (by omega)
  obtain⟨v1,v2⟩:=u2 (by omega) (by omega) (by omega)
  have a5:=u5 (by omega)
  have m4:Dq p r=false:=by simp[Dq,e]
  have vv:zH p r=false:=by simp[zH,v1,v2]
  have d1:Dt p r=((p.topology==4)&&(decide (r.direction<3)||decide (r.direction>4))):=by
   simp only[Dt,e,nZ]; rfl
  have d2:Du p r=(!(p.topology==4)&&(decide (r.direction<1)||decide (r.direction>2))):=by
   simp only[Du,e,nZ]; rfl
  simp only[iL,m4,d1,d2,vv,g1,g2,g3,g4,a5.2.1,a5.2.2,u6 (by omega),e,AL,Int.reduceBEq,Bool.or_true,Bool.true_and,cond_false,dH]
  cases oO r.gI p.states.length with
  |true=>cases (p.topology==4)<;>rfl
  |false =>
   cases oO r.AO p.states.length with
   |true=>cases (p.topology==4)<;>rfl
   |false =>
    cases (p.topology==4) with
    |true=>cases (decide (r.direction<3)||decide (r.direction>4))<;>rfl
    |false=>cases (decide (r.direction<1)||decide (r.direction>2))<;>rfl
theorem aat{p:aN}:(!(iI p.topology 1 4)|| !(iI p.fault 0 3))=ug p:=by
 simp only[nZ,ug,Bool.or_assoc]
theorem S.Xu(p:aN)(i:Nat)(hi:i<p.rules.length)(hp:dP p):aj Tryz.prog 138 [.dat (.jA p),.int i] (.int (iC p i)):=by
 rw[<- aar]; exact S.wz p i hi hp
theorem af6{h:Hz}{j:Nat}{Z:Nat->Prop}{l:List Str}(hz:Z j)(q:h.get j=some (.row 9 0 (.strs l) [])):T.sub Z h.ay (V.row 0 false (.strs l)).aG (V.own j).aG:=by
 show T.sub Z h.ay (.sl 0 false (l.map eS)) (.own j)
 simp only[T.sub]
 refine⟨trivial,hz,?_,by decide,9,?_⟩
 ·rw[fZ]; intro t ht; obtain⟨x,_,rfl⟩:=List.mem_map.1 ht; rfl
 ·have:=aV q
  rw[this]; simp[OV.aF,Rw.bn,V.bn]
theorem S.kR(p:aN)(hp:dP p):aj Tryz.prog 91 [.dat (.jA p)] (.int (dw p)):=by
 have g1:=hp.states; have g2:=hp.messages; have g3:=hp.values; have g4:=hp.dF; have g5:=hp.initial; have g6:=hp.leader; have g7:=hp.rules
 refine aj.of Bd.kR (by simp) rfl rfl ?_
 conv=>whnf
 refine ah.pure (S.iE p.name) rfl ?_
 conv=>whnf
 refine⟨fun h1=>?_,fun h1=>?_⟩
 ·conv=>whnf
  exact ak.int (by rw[dw,h1]; rfl)
 conv=>whnf
 refine ah.pure (S.aU p.topology 1 4) rfl ?_
 conv=>whnf
 repeat(refine VC.mk id ?_; conv=>whnf)
 refine ah.gG (fun _=>S.aU p.fault 0 3) rfl ?_
 conv=>whnf
 repeat(refine VC.mk (by first|exact id|(intro h; rw[h]; rfl)) ?_; conv=>whnf)
 refine⟨fun h2=>?_,fun h2=>?_⟩
 ·conv=>whnf
  rw[aat] at h2
  exact ak.int (by rw[dw,h1,h2]; rfl)
 rw[aat] at h2
 conv=>whnf
 refine⟨fun h3=>?_,fun h3=>?_⟩
 ·conv=>whnf
  exact ak.int (by rw[dw,h1,h2,show((p.states.length:Int)==0)=true from h3]; rfl)
 replace h3:((p.states.length:Int)==0)=false:=h3
 conv=>whnf
 repeat(refine VC.mk (by first|exact id|(intro h; rw[h]; rfl)) ?_; conv=>whnf)
 refine⟨fun h4=>?_,fun h4=>?_⟩
 ·conv=>whnf
  exact ak.int (by rw[dw,h1,h2,h3,show vJ p=true from h4]; rfl)
 replace h4:vJ p=false:=h4
 have h0:0<p.states.length:=by
  rcases Nat.eq_zero_or_pos p.states.length with e|e
  ·rw[e] at h3; exact absurd h3 (by decide)
  ·exact e
 have hlen:(allNames p).length<2^30:=by simp only[allNames,List.length_append]; omega
 conv=>whnf
 repeat(refine VC.mk (by simp only[nI,oz,Rw.len,List.length_append]; omega) ?_; conv=>whnf)
 refine aI.fz 3 57 0 (.strs (allNames p)) rfl rfl (af6 rfl rfl) ?_
 conv=>whnf
 refine aI.same [1,3] (fun i:Nat=>[(4,.int i)]) (fun i=>i<=(allNames p).length/\(List.range i).any (OA (allNames p))=false) (fun i=>(allNames p).length-i) 0 rfl (by decide) rfl (fun _=>rfl) ⟨Nat.zero_le _,rfl⟩ ⟨⟨_,rfl,rfl⟩,trivial⟩ ?_
 conv=>whnf
 refine⟨rfl,?_⟩
 rintro i ⟨hi,hall⟩
 conv=>whnf
 refine⟨fun h5=>?_,fun h5=>?_⟩
 ·have hi':i<(allNames p).length:=by have:(i:Int)<((allNames p).length:Int):=of_decide_eq_true h5; omega
  conv=>whnf
  refine .mk (by simp only[Rw.rng] at *; omega) ?_
  conv=>whnf
  refine ah.pure (S.iE ((allNames p).getD i [])) rfl ?_
  conv=>whnf
  repeat(refine VC.mk (by first|exact id|exact fun h=>⟨h,h⟩|(intro h; (repeat' apply And.intro)<;>first|exact h|omega|(simp only[Rw.pq]; omega)|(simp only[Rw.rng]; omega))) ?_; conv=>whnf)
  refine ah.gG (fun _=>S.lM ((allNames p).take i) ((allNames p).getD i []) _ (by rw[List.length_take]; omega)) rfl ?_
  conv=>whnf
  refine .mk (by intro h; rw[h]; rfl) ?_
  conv=>whnf
  refine⟨fun h6=>?_,fun h6=>?_⟩
  ·conv=>whnf
   refine ak.int ?_
   rw[dw,h1,h2,h3,h4,show zB p=2 by rw[zB,nY.2 ⟨i,hi',h6⟩]; rfl]; rfl
  ·conv=>whnf
   refine .mk (by simp only[okI] at *; omega) ?_
   conv=>whnf
   refine⟨i+1,⟨by omega,?_⟩,by omega,⟨⟨_,rfl,rfl⟩,trivial⟩,?_,rfl⟩
   ·rw[List.range_succ,List.any_append,hall]
    simp only[List.any_cons,List.any_nil,Bool.or_false,Bool.false_or]; exact h6
   ·repeat' (first|exact trivial|exact⟨_,rfl,rfl⟩|constructor)
 have hi':(allNames p).length<=i:=by have: ¬ ((i:Int)<((allNames p).length:Int)):=of_decide_eq_false h5; omega
 have e:i=(allNames p).length:=Nat.le_antisymm hi hi'
 subst e
 have h5:zB p=0:=by rw[zB,hall]; rfl
 clear hi hall hi' hlen
 conv=>whnf
 repeat(refine VC.mk (by first|exact id|(intro h; rw[h]; rfl)|(intro h; simp[h]; done)|(intro h; simp_all; done)) ?_; conv=>whnf)
 refine⟨fun h6=>?_,fun h6=>?_⟩
 ·conv=>whnf
  exact ak.int (by rw[dw,h1,h2,h3,h4,h5,show Q8 p=true from h6]; rfl)
 replace h6:Q8 p=false:=h6
 conv=>whnf
 refine aI.same [1] (fun i:Nat=>[(5,.int i)]) (fun i=>i<=p.dF.length/\(p.dF.take i).any (fun l=> !(QV l))=false) (fun i=>p.dF.length-i) 0 rfl (by decide) rfl (fun _=>rfl) ⟨by omega,by simp⟩ ⟨⟨_,rfl,rfl⟩,trivial⟩ ?_
 conv=>whnf
 refine⟨rfl,?_⟩
 rintro i ⟨hi,hall⟩
 conv=>whnf
 refine⟨fun h7=>?_,fun h7=>?_⟩
 ·have hi':i<p.dF.length:=by simpa using h7
  conv=>whnf
  refine .mk (by simp only[Rw.rng] at *; omega) ?_
  conv=>whnf
  refine ah.pure (S.uG (p.dF.getD i default)) rfl ?_
  conv=>whnf
  refine⟨fun h8=>?_,fun h8=>?_⟩
  ·conv=>whnf
   exact ak.int (by rw[dw,h1,h2,h3,h4,h5,h6,iF (d:=default) hi' h8]; rfl)
  ·conv=>whnf
   refine .mk (by simp only[okI] at *; omega) ?_
   conv=>whnf
   refine⟨i+1,⟨by omega,?_⟩,by omega,⟨⟨_,rfl,rfl⟩,trivial⟩,?_,rfl⟩
   ·rw[jS (d:=default) hi' hall]; exact h8
   ·repeat' (first|exact trivial|exact⟨_,rfl,rfl⟩|constructor)
 have hi':p.dF.length<=i:=by simpa using h7
 rw[List.take_of_length_le hi'] at hall
 clear hi hi' h7
 conv=>whnf
 refine ah.pure (S.iJ p.initial p.states.length false (by omega) ⟨by omega,by omega⟩) rfl ?_
 conv=>whnf
 refine⟨fun h7=>?_,fun h7=>?_⟩
 ·replace h7:=Q7 h7
  have:xR p=jJ p.initial p.states.length:=fN h7
  conv=>whnf
  exact ak.int (by rw[dw,h1,h2,h3,h4,h5,h6,hall,this,show(jJ p.initial p.states.length !=0)=true by simpa using h7]; rfl)
 replace h7:=IJ h7
 conv=>whnf
 refine⟨fun h8=>?_,fun h8=>?_⟩
 ·replace h8:((p.initial.length:Int)==0)=true:=h8
  have:xR p=1:=by rw[xR,h7,h8]; rfl
  conv=>whnf
  exact ak.int (by rw[dw,h1,h2,h3,h4,h5,h6,hall,this]; rfl)
 replace h8:((p.initial.length:Int)==0)=false:=h8
 conv=>whnf
 refine ah.pure (S.iJ p.leader p.states.length false (by omega) ⟨by omega,by omega⟩) rfl ?_
 conv=>whnf
 refine⟨fun h9=>?_,fun h9=>?_⟩
 ·replace h9:=Q7 h9
  have:xR p=jJ p.leader p.states.length:=by rw[xR,h7,h8]; exact fN h9
  conv=>whnf
  exact ak.int (by rw[dw,h1,h2,h3,h4,h5,h6,hall,this,show(jJ p.leader p.states.length !=0)=true by simpa using h9]; rfl)
 replace h9:=IJ h9
 have h10:xR p=0:=by rw[xR,h7,h8,h9]; rfl
 conv=>whnf
 refine aI.same [1] (fun i:Nat=>[(8,.int i)]) (fun i=>i<=p.rules.length/\CO p=bJ (((List.range p.rules.length).drop i).map (iC p))) (fun i=>p.rules.length-i) 0 rfl (by decide) rfl (fun _=>rfl) ⟨by omega,by simp[CO]⟩ ⟨⟨_,rfl,rfl⟩,trivial⟩ ?_
 conv=>whnf
 refine⟨rfl,?_⟩
 rintro i ⟨hi,hr⟩
 conv=>whnf
 refine⟨fun h11=>?_,fun h11=>?_⟩
 ·have hi':i<p.rules.length:=by simpa using h11
  rw[JQ hi'] at hr
  simp only[bJ] at hr
  conv=>whnf
  refine ah.pure (S.Xu p i hi' hp) rfl ?_
  conv=>whnf
  refine⟨fun h12=>?_,fun h12=>?_⟩
  ·conv=>whnf
   have Ym:iC p i≠0:=Q7 h12
   rw[if_neg Ym] at hr
   exact ak.int (by rw[dw,h1,h2,h3,h4,h5,h6,hall,h10,hr,show(iC p i !=0)=true from h12]; rfl)
  ·conv=>whnf
   refine .mk (by simp only[okI] at *; omega) ?_
   conv=>whnf
   have Ym:iC p i=0:=IJ h12
   rw[if_pos Ym] at hr
   refine⟨i+1,⟨by omega,hr⟩,by omega,⟨⟨_,rfl,rfl⟩,trivial⟩,?_,rfl⟩
   repeat' (first|exact trivial|exact⟨_,rfl,rfl⟩|constructor)
 have hi':p.rules.length<=i:=by simpa using h11
 rw[List.drop_eq_nil_of_le (by simpa using hi')] at hr
 conv=>whnf
 refine ah.pure (S.mg p hp) rfl ?_
 conv=>whnf
 refine⟨fun h12=>?_,fun h12=>?_⟩
 ·conv=>whnf
  exact ak.int (by rw[dw,h1,h2,h3,h4,h5,h6,hall,h10,hr,show decide (((yN p.rules).length:Int)>3)=true from h12]; rfl)
 ·conv=>whnf
  exact ak.int (by rw[dw,h1,h2,h3,h4,h5,h6,hall,h10,hr,show decide (((yN p.rules).length:Int)>3)=false from h12]; rfl)
def Q9(p:aN)(i:Nat):V:=.agg [.bool (((p.topology==1)&&((p.values.length:Int)==0))&&(p.rules.take i).foldl Rf true),.bool (rX p&& !((p.rules.take i).foldl Xv false)),.bool ((p.topology==2)||(p.topology==3)),.bool (p.topology==4),.bool (rX p&&decide ((p.states.length:Int)<=4))]
def badR(r:Rule):Bool:=r.kind !=1||decide (r.fr>=r.to)||decide ((r.ex.length:Int)>0)||decide ((r.all.length:Int)>0)
theorem aco{acc:Bool}{r:Rule}(h:badR r=true):Rf acc r=false:=by
 simp only[badR,Bool.or_eq_true,bne_iff_ne,decide_eq_true_eq] at h
 simp only[Rf]
 rw[Bool.eq_false_iff]; intro q
 simp only[Bool.and_eq_true,beq_iff_eq,decide_eq_true_eq] at q
 omega
theorem aeM{acc:Bool}{r:Rule}(h:badR r=false):Rf acc r=acc:=by
 simp only[badR,Bool.or_eq_false_iff,bne_eq_false_iff_eq,decide_eq_false_iff_not] at h
 obtain⟨⟨⟨a,b⟩,c⟩,d⟩:=h
 simp only[Rf]
 rw[show(r.kind==1)=true from beq_iff_eq.2 a,decide_eq_true (by omega),show((r.ex.length:Int)==0)=true from beq_iff_eq.2 (by omega),show((r.all.length:Int)==0)=true from beq_iff_eq.2 (by omega)]
 simp
theorem agS(p:aN):Q9 p 0= .agg [.bool ((p.topology==1)&&((p.values.length:Int)==0)),.bool (rX p),.bool ((p.topology==2)||(p.topology==3)),.bool (p.topology==4),.bool (rX p&&decide ((p.states.length:Int)<=4))]:=by
 simp[Q9]
theorem ES(p:aN){i:Nat}(hi:i<p.rules.length):Q9 p (i+1) =
  .agg [.bool (bif badR (p.rules.getD i default) then false else((p.topology==1)&&((p.values.length:Int)==0))&&(p.rules.take i).foldl Rf true),
   .bool (bif decide (((p.rules.getD i default).all.length:Int)>0) then false else rX p&& !((p.rules.take i).foldl Xv false)),.bool ((p.topology==2)||(p.topology==3)),.bool (p.topology==4),.bool (rX p&&decide ((p.states.length:Int)<=4))]:=by
 simp only[Q9,AB (d:=default) hi]
 cases hb:badR (p.rules.getD i default) with
 |true =>
  rw[aco hb,Xv]
  cases decide (((p.rules.getD i default).all.length:Int)>0)<;>simp
 |false =>
  rw[aeM hb,Xv]
  cases decide (((p.rules.getD i default).all.length:Int)>0)<;>simp
theorem S.lN(p:aN)(hp:dP p):aj Tryz.prog 40 [.dat (.jA p)] (FX p):=by
 have g1:=hp.states; have g2:=hp.messages; have g3:=hp.values; have g4:=hp.dF; have g7:=hp.rules
 refine aj.of Bd.lN (by simp) rfl rfl ?_
 conv=>whnf
 refine ah.pure (S.kR p hp) rfl ?_
 conv=>whnf
 refine⟨fun h1=>?_,fun h1=>?_⟩
 ·conv=>whnf
  refine ak.eqv ?_
  rw[FX,h1]; rfl
 have h1':dw p=0:=IJ h1
 conv=>whnf
 repeat(refine VC.mk (by first|exact id|(intro h; rw[h]; rfl)) ?_; conv=>whnf)
 refine aI.objs 100 [1,2,7] (fun i:Nat=>[(8,.int i)]) (fun i=>[(0,.box 27 11 (.dat (.jA p))),(1,.box 62 6 (af7 OM)),(58,.box 62 6 (Q9 p i))]) (fun i=>i<=p.rules.length) (fun i=>p.rules.length-i) 0 [0,1,58] rfl (by decide) (fun _=>rfl) (Nat.zero_le _) ?_ ?_ ?_
 ·exact⟨⟨_,rfl,.eq rfl⟩,trivial⟩
 ·refine⟨⟨rfl,nofun,rfl,rfl,rfl,_,rfl,rfl,rfl,dQ.of_eq rfl⟩,⟨rfl,nofun,rfl,rfl,rfl,_,rfl,rfl,rfl,dQ.of_eq rfl⟩,⟨rfl,nofun,rfl,rfl,rfl,_,rfl,rfl,rfl,dQ.of_eq ?_⟩,trivial⟩
  rw[agS]; rfl
 conv=>whnf
 refine⟨⟨⟨_,rfl,.eq rfl⟩,⟨_,rfl,.eq rfl⟩,⟨_,rfl,.eq rfl⟩,trivial⟩,rfl,?_⟩
 rintro i hi
 have g8:=hp.rule i
 have g9:=g8.ex; have g10:=g8.all
 conv=>whnf
 refine⟨fun h3=>?_,fun h3=>?_⟩
 ·have hi':i<p.rules.length:=by simpa using h3
  conv=>whnf
  repeat(refine VC.mk (by first|exact id|exact fun h=>⟨h,h⟩|(intro h; rw[h]; rfl)|(simp only[Rw.rng] at *; omega)) ?_; conv=>whnf)
  refine⟨fun h4=>?_,fun h4=>?_⟩
  ·replace h4:badR (p.rules.getD i default)=true:=h4
   conv=>whnf
   refine⟨fun h5=>?_,fun h5=>?_⟩
   ·replace h5:decide (((p.rules.getD i default).all.length:Int)>0)=true:=h5
    conv=>whnf
    refine .mk (by simp only[okI] at *; omega) ?_
    conv=>whnf
    refine⟨i+1,[0,1,58],by omega,by omega,⟨⟨_,rfl,.eq rfl⟩,trivial⟩,⟨⟨_,rfl,.eq rfl⟩,⟨_,rfl,.eq rfl⟩,⟨_,rfl,.eq rfl⟩,trivial⟩,⟨rfl,nofun,rfl,rfl,rfl,_,rfl,rfl,rfl,dQ.of_eq rfl⟩,⟨rfl,nofun,rfl,rfl,rfl,_,rfl,rfl,rfl,dQ.of_eq rfl⟩,⟨rfl,nofun,rfl,rfl,rfl,_,rfl,rfl,rfl,dQ.of_eq ?_⟩,trivial⟩
    rw[ES p hi',h4,h5]; rfl
   ·replace h5:decide (((p.rules.getD i default).all.length:Int)>0)=false:=h5
    conv=>whnf
    refine .mk (by simp only[okI] at *; omega) ?_
    conv=>whnf
    refine⟨i+1,[0,1,58],by omega,by omega,⟨⟨_,rfl,.eq rfl⟩,trivial⟩,⟨⟨_,rfl,.eq rfl⟩,⟨_,rfl,.eq rfl⟩,⟨_,rfl,.eq rfl⟩,trivial⟩,⟨rfl,nofun,rfl,rfl,rfl,_,rfl,rfl,rfl,dQ.of_eq rfl⟩,⟨rfl,nofun,rfl,rfl,rfl,_,rfl,rfl,rfl,dQ.of_eq rfl⟩,⟨rfl,nofun,rfl,rfl,rfl,_,rfl,rfl,rfl,dQ.of_eq ?_⟩,trivial⟩
    rw[ES p hi',h4,h5]; rfl
  ·replace h4:badR (p.rules.getD i default)=false:=h4
   conv=>whnf
   refine⟨fun h5=>?_,fun h5=>?_⟩
   ·replace h5:decide (((p.rules.getD i default).all.length:Int)>0)=true:=h5
    conv=>whnf
    refine .mk (by simp only[okI] at *; omega) ?_
    conv=>whnf
    refine⟨i+1,[0,1,58],by omega,by omega,⟨⟨_,rfl,.eq rfl⟩,trivial⟩,⟨⟨_,rfl,.eq rfl⟩,⟨_,rfl,.eq rfl⟩,⟨_,rfl,.eq rfl⟩,trivial⟩,⟨rfl,nofun,rfl,rfl,rfl,_,rfl,rfl,rfl,dQ.of_eq rfl⟩,⟨rfl,nofun,rfl,rfl,rfl,_,rfl,rfl,rfl,dQ.of_eq rfl⟩,⟨rfl,nofun,rfl,rfl,rfl,_,rfl,rfl,rfl,dQ.of_eq ?_⟩,trivial⟩
    rw[ES p hi',h4,h5]; rfl
   ·replace h5:decide (((p.rules.getD i default).all.length:Int)>0)=false:=h5
    conv=>whnf
    refine .mk (by simp only[okI] at *; omega) ?_
    conv=>whnf
    refine⟨i+1,[0,1,58],by omega,by omega,⟨⟨_,rfl,.eq rfl⟩,trivial⟩,⟨⟨_,rfl,.eq rfl⟩,⟨_,rfl,.eq rfl⟩,⟨_,rfl,.eq rfl⟩,trivial⟩,⟨rfl,nofun,rfl,rfl,rfl,_,rfl,rfl,rfl,dQ.of_eq rfl⟩,⟨rfl,nofun,rfl,rfl,rfl,_,rfl,rfl,rfl,dQ.of_eq rfl⟩,⟨rfl,nofun,rfl,rfl,rfl,_,rfl,rfl,rfl,dQ.of_eq ?_⟩,trivial⟩
    rw[ES p hi',h4,h5]; rfl
 have hi':p.rules.length<=i:=by simpa using h3
 have e:i=p.rules.length:=Nat.le_antisymm hi hi'
 subst e
 conv=>whnf
 refine ak.eqv ?_
 rw[FX,h1',nV]
 simp only[List.take_length]
 rfl
theorem H6{x:Int}:(decide (x<0)||decide (1048576<x))= !(EZ x):=by
 unfold EZ; rw[Bool.eq_iff_iff]; simp
def MN(p:aN):Int:=bif dw p !=0 then dw p else bif !(nV p).cover&& !(nV p).monadic then 7 else 0
def Dz(p:aN)(e:Elem):Bool:=((((e.counts.length:Int) !=p.states.length)|| !(e.counts.all EZ))||decide (e.value<0))||decide (e.value>=max 1 (p.values.length:Int))
def KD(p:aN)(e:Elem):Int:=bif MN p !=0 then MN p else fG (Dz p e) 1
theorem af8(p:aN):MN p=bif ((dw p==0)&& !(bif dw p !=0 then OM else nV p).cover&& !(bif dw p !=0 then OM else nV p).monadic) then 7 else dw p:=by
 unfold MN bne
 cases hz:dw p==0 with
 |true=>simp only[Bool.not_true,cond_false,Bool.true_and]; rw[show dw p=0 from beq_iff_eq.1 hz]
 |false=>rfl
theorem S.iM(p:aN)(hp:dP p):aj Tryz.prog 142 [.dat (.jA p)] (.int (MN p)):=by
 refine aj.of Bd.iM (by simp) rfl rfl ?_
 conv=>whnf
 refine ah.pure (S.fP p hp) rfl ?_
 conv=>whnf
 repeat(refine VC.mk id ?_; conv=>whnf)
 refine⟨fun h1=>?_,fun h1=>?_⟩
 ·conv=>whnf
  exact ak.int (by rw[af8,h1]; rfl)
 ·conv=>whnf
  exact ak.int (by rw[af8,h1]; rfl)
theorem S.gU(p:aN)(e:Elem)(hp:dP p)(he:e.counts.length<2^30):aj Tryz.prog 143 [.dat (.jA p),.dat (.elem e)] (.int (fG (Dz p e) 1)):=by
 have g1:=hp.states
 have g3:=hp.values
 refine aj.of Bd.gU (by simp) rfl rfl ?_
 conv=>whnf
 repeat(refine VC.mk id ?_; conv=>whnf)
 refine ah.gG (fun _=>S.jM e.counts false (by omega)) rfl ?_
 conv=>whnf
 repeat(refine VC.mk (by first|exact id|exact fun h=>⟨h,h⟩|(intro h; rw[h]; rfl)) ?_; conv=>whnf)
 refine⟨fun h1=>?_,fun h1=>?_⟩
 ·conv=>whnf
  exact ak.int (by rw[show Dz p e=true from h1]; rfl)
 ·conv=>whnf
  exact ak.int (by rw[show Dz p e=false from h1]; rfl)
theorem S.gK(p:aN)(e:Elem)(hp:dP p)(he:e.counts.length<2^30):aj Tryz.prog 96 [.dat (.jA p),.dat (.elem e)] (.int (KD p e)):=by
 refine aj.of Bd.gK (by simp) rfl rfl ?_
 conv=>whnf
 refine ah.pure (S.iM p hp) rfl ?_
 conv=>whnf
 refine⟨fun h1=>?_,fun h1=>?_⟩
 ·conv=>whnf
  exact ak.int (by rw[KD,h1]; rfl)
 ·conv=>whnf
  refine ah.pure (S.gU p e hp he) rfl ?_
  conv=>whnf
  exact ak.int (by rw[KD,h1]; rfl)
theorem Uj(p:aN)(e:Elem):Dz p e=(((((e.counts.length:Int) !=p.states.length)||decide (e.value<0))||decide (e.value>=max 1 (p.values.length:Int)))|| !(e.counts.all EZ)):=by
 unfold Dz
 cases ((e.counts.length:Int) !=p.states.length)<;>cases (e.counts.all EZ)<;>cases decide (e.value<0)<;>cases decide (e.value>=max 1 (p.values.length:Int))<;>rfl
theorem S.vk(p:aN)(e:Elem)(hp:dP p)(he:e.counts.length<2^30):aj Tryz.prog 41 [.dat (.jA p),.dat (.elem e)] (.bool (!(Dz p e))):=by
 have g1:=hp.states
 have g3:=hp.values
 refine aj.of Bd.vk (by simp) rfl rfl ?_
 conv=>whnf
 repeat(refine VC.mk (by first|exact id|exact fun h=>⟨h,h⟩|(intro h; rw[h]; rfl)) ?_; conv=>whnf)
 refine⟨fun h1=>?_,fun h1=>?_⟩
 ·conv=>whnf
  refine ak.bool ?_
  rw[Uj,show((((e.counts.length:Int) !=p.states.length)||decide (e.value<0))||decide (e.value>=max 1 (p.values.length:Int)))=true from h1]; rfl
 conv=>whnf
 refine aI.same [2,3] (fun i:Nat=>[(5,.int i)]) (fun i=>i<=e.counts.length/\(e.counts.take i).all EZ=true) (fun i=>e.counts.length-i) 0 rfl (by decide) rfl (fun _=>rfl) ⟨by omega,by simp⟩ ⟨⟨_,rfl,rfl⟩,trivial⟩ ?_
 conv=>whnf
 refine⟨rfl,?_⟩
 rintro i ⟨hi,hall⟩
 conv=>whnf
 refine⟨fun h3=>?_,fun h3=>?_⟩
 ·have hi':i<e.counts.length:=by simpa using h3
  conv=>whnf
  repeat(refine VC.mk (by first|exact id|(intro h; rw[h]; rfl)|(intro h; (repeat' apply And.intro)<;>first|exact h|omega|(simp only[Rw.pq]; omega)|(simp only[Rw.rng]; omega))|(simp only[Rw.rng] at *; first|omega|(simp_all; done)|(simp_all; omega))) ?_; conv=>whnf)
  refine⟨fun h4=>?_,fun h4=>?_⟩
  ·conv=>whnf
   refine ak.bool ?_
   replace h4:(decide (e.counts.getD i 0<0)||decide (1048576<e.counts.getD i 0))=true:=h4
   rw[H6] at h4
   rw[Uj,uZ (d:=0) hi' (by simpa using h4)]; simp
  ·conv=>whnf
   refine .mk (by simp only[okI] at *; first|omega|(simp_all; done)|(simp_all; omega)) ?_
   conv=>whnf
   replace h4:(decide (e.counts.getD i 0<0)||decide (1048576<e.counts.getD i 0))=false:=h4
   rw[H6] at h4
   refine⟨i+1,⟨by omega,?_⟩,by omega,⟨⟨_,rfl,rfl⟩,trivial⟩,?_,rfl⟩
   ·rw[xI (d:=0) hi' hall]; simpa using h4
   ·repeat' (first|exact trivial|exact⟨_,rfl,rfl⟩|constructor)
 ·have hi':e.counts.length<=i:=by simpa using h3
  rw[List.take_of_length_le hi'] at hall
  conv=>whnf
  refine ak.bool ?_
  rw[Uj,hall,show((((e.counts.length:Int) !=p.states.length)||decide (e.value<0))||decide (e.value>=max 1 (p.values.length:Int)))=false from h1]; rfl
theorem S.pY(e:Elem)(hl:e.counts.length<2^40):aj Tryz.prog 42 [.dat (.elem e)] (.int (sS e)):=by
 refine aj.of Bd.pY (by simp) rfl rfl ?_
 conv=>whnf
 refine⟨fun h1=>?_,fun h1=>?_⟩
 ·have h:6<e.counts.length:=by
   have:(6:Int)<e.counts.length:=of_decide_eq_true h1
   omega
  conv=>whnf
  exact ak.int (by rw[sS,if_pos h])
 have h: ¬ 6<e.counts.length:=by
  have: ¬ (6:Int)<e.counts.length:=of_decide_eq_false h1
  omega
 conv=>whnf
 refine aI.same [1] (fun i:Nat=>[(4,.int i),(3,.int (e.counts.take i).sum)]) (fun i=>i<=e.counts.length/\(e.counts.take i).all EZ=true) (fun i=>e.counts.length-i) 0 rfl (by decide) rfl (fun _=>rfl) ⟨by omega,by simp⟩ ⟨⟨_,rfl,rfl⟩,⟨_,rfl,rfl⟩,trivial⟩ ?_
 conv=>whnf
 refine⟨rfl,?_⟩
 rintro i ⟨hi,hall⟩
 have hb:=uJ hall
 have hb':((e.counts.take i).length:Int)<=6:=by simp; omega
 conv=>whnf
 refine⟨fun h3=>?_,fun h3=>?_⟩
 ·have hi':i<e.counts.length:=by simpa using h3
  have hs:=Ia hi'
  conv=>whnf
  repeat(refine VC.mk (by first|exact id|(intro h; rw[h]; rfl)|(intro h; (repeat' apply And.intro)<;>first|exact h|omega|(simp only[Rw.pq]; omega)|(simp only[Rw.rng]; omega))|(simp only[Rw.rng] at *; first|omega|(simp_all; done)|(simp_all; omega))) ?_; conv=>whnf)
  refine⟨fun h4=>?_,fun h4=>?_⟩
  ·conv=>whnf
   replace h4:(decide (e.counts.getD i 0<0)||decide (1048576<e.counts.getD i 0))=true:=h4
   rw[H6] at h4
   exact ak.int (by rw[sS,if_neg h,uZ (d:=0) hi' (by simpa using h4)]; rfl)
  ·replace h4:(decide (e.counts.getD i 0<0)||decide (1048576<e.counts.getD i 0))=false:=h4
   rw[H6] at h4
   have h4':EZ (e.counts.getD i 0)=true:=by simpa using h4
   have ac8:(e.counts.take (i+1)).all EZ=true:=by rw[xI (d:=0) hi' hall]; exact h4'
   have hc:=uJ ac8
   have hc':((e.counts.take (i+1)).length:Int)<=6:=by simp; omega
   conv=>whnf
   repeat(refine VC.mk (by first|(simp only[okI,Int.toNat_natCast] at *; rw[<- hs]; omega)|(simp only[okI,Rw.rng] at *; first|omega|(simp_all; done)|(simp_all; omega))) ?_; conv=>whnf)
   refine⟨i+1,⟨by omega,ac8⟩,by omega,⟨⟨_,rfl,rfl⟩,⟨_,rfl,?_⟩,trivial⟩,?_,rfl⟩
   ·rw[hs]; simp[V.aG,qZ]
   ·repeat' (first|exact trivial|exact⟨_,rfl,rfl⟩|constructor)
 ·have hi':e.counts.length<=i:=by simpa using h3
  rw[List.take_of_length_le hi'] at hall
  rw[List.take_of_length_le hi']
  conv=>whnf
  exact ak.int (by rw[sS,if_neg h,if_pos hall])
end Go.Proofs.YtkomllaebngbfaaGreatDoor
