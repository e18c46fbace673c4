/-
 The two programs' rules for a protocol's rules say the same. No condition.
-/
import Derived.Test.YtkomllaebngbfaaGreatDoorRa
import Derived.Test.YtkomllaebngbfaaGreatDoorLg
namespace Go.Proofs.YtkomllaebngbfaaGreatDoor
open Go.Ab Go.Proofs
theorem sO{x n:Int}:(!(gK x 0 (n-1)))=nN x n:=by rw[ng,Bool.not_not]
theorem vals_eq(p:aJ)(r:Rule):xO p r=((decide (r.read< -1)||decide (r.read>=p.values.length))||(decide (r.write< -1)||decide (r.write>=p.values.length))):=by
 simp only[xO,sO,nN]
 rw[Bool.eq_iff_iff]; simp; omega
theorem Wh(a b:Bool)(v:Int)(r:List Int)(h:v≠0):aY (eF (a||b) v::r)=aY (eF a v::eF b v::r):=by
 cases a<;>cases b<;>simp[eF,aY,h]
theorem KC(p:aJ)(l:List xU)(r:List Int):aY (uJ p l::r)=aY (jL p l::eF (decide ((l.length:Int)>2)) 4::r):=by
 by_cases h:jL p l=0
 ·rw[show uJ p l=eF (decide ((l.length:Int)>2)) 4 from if_pos h,h]; rfl
 ·rw[show uJ p l=jL p l from if_neg h,fN h,fN h]
theorem Jh{c d:Bool}:(bif c then true else d)=(c||d):=by cases c<;>rfl
theorem len_nil{α:Type}{l:List α}(h:decide ((l.length:Int)>0)=false):l=[]:=by
 cases l with
 |nil=>rfl
 |cons a r=>simp at h
theorem Ij{r:Rule}{t:Int}(h:jT r t=false) :
  (r.kind≠1->r.guards=[]/\r.ex=[]/\r.all=[]/\r.send=[])/\(r.kind≠1->r.kind≠2->r.kind≠3->r.read= -1/\r.write= -1) /\
  (r.kind≠3->r.response=[])/\(r.kind≠5->r.direction=0)/\(r.kind≠4->r.pos=0/\r.left=[]/\r.right=[])/\(¬(r.kind=4/\t=4)->r.parent=[]):=by
 simp only[jT,Jh,Bool.or_eq_false_iff] at h
 obtain⟨h1,h2,h3,⟨h4,h5⟩,h6,h7⟩:=h
 refine⟨fun k=>?_,fun k1 k2 k3=>?_,fun k=>?_,fun k=>?_,fun k=>?_,fun k=>?_⟩
 ·simp only[beq_eq_false_iff_ne.2 k,Bool.not_false,Bool.true_and,Bool.or_eq_false_iff] at h1
  exact⟨len_nil h1.1.1.1,len_nil h1.1.1.2,len_nil h1.1.2,len_nil h1.2⟩
 ·simp only[beq_eq_false_iff_ne.2 k1,beq_eq_false_iff_ne.2 k2,beq_eq_false_iff_ne.2 k3,Bool.not_false,Bool.true_and,Bool.or_eq_false_iff] at h2
  exact⟨Og h2.1,Og h2.2⟩
 ·simp only[beq_eq_false_iff_ne.2 k,Bool.not_false,Bool.true_and] at h4
  exact len_nil h4
 ·simp only[beq_eq_false_iff_ne.2 k,Bool.not_false,Bool.true_and] at h5
  exact Og h5
 ·simp only[beq_eq_false_iff_ne.2 k,Bool.not_false,Bool.true_and,Bool.or_eq_false_iff] at h6
  exact⟨Og h6.1.1,len_nil h6.1.2,len_nil h6.2⟩
 ·refine len_nil ?_
  rw[Bool.and_eq_false_iff] at h7
  rcases h7 with h7|h7
  ·exact h7
  ·simp only[Bool.not_eq_false',Bool.and_eq_true,beq_iff_eq] at h7
   exact absurd h7 k
theorem kind_eq{r:Rule}{t:Int}:((!(gK r.kind 1 5)||(decide (r.kind<=3) !=(t==1)))||jT r t)=(!(qH r.kind t)||kC r t):=by
 by_cases hk:1<=r.kind/\r.kind<=5
 ·rw[sG hk]
  congr 1
  have hk':r.kind=1\/r.kind=2\/r.kind=3\/r.kind=4\/r.kind=5:=by omega
  rcases hk' with e|e|e|e|e<;>rw[e]<;>cases ht:(t==1)<;>simp[gK,qH,ht]
 ·have h1:gK r.kind 1 5=false:=by rw[gK,Bool.and_eq_false_iff]; simp; omega
  have h2:qH r.kind t=false:=by
   have:r.kind≠1/\r.kind≠2/\r.kind≠3/\r.kind≠4/\r.kind≠5:=by omega
   obtain⟨a,b,c,d,e⟩:=this
   simp[qH,a,b,c,d,e]
  rw[h1,h2]; rfl
theorem Es(p:aJ)(r:Rule):(tZ p r !=0)=(nN r.fr p.states.length||nN r.to p.states.length):=by
 simp only[tZ,cO]
 cases nN r.fr p.states.length<;>cases nN r.to p.states.length<;>rfl
theorem aaT(p:aJ)(r:Rule)(h:(tZ p r !=0)=true):tZ p r=5:=by
 rw[Es] at h
 simp only[tZ,cO]
 revert h
 cases nN r.fr p.states.length<;>cases nN r.to p.states.length<;>intro h<;>first|rfl|cases h
theorem yL(n:Int):jg [] n=0:=rfl
theorem SS(x:Int):aY [x,0,0,0,0,0,0]=aY [x]:=by
 simp only[aY]; simp
theorem zQ{a:Int}{X Y:List Int}(h:aY X=aY Y):aY (a::X)=aY (a::Y):=by simp only[aY,h]
theorem PG(x:Int):aY [x,0,0,0,0,0,0,0]=aY [x]:=by
 simp only[aY]; simp
theorem PI(x:Int):aY [x,0,0]=aY [x]:=by
 simp only[aY]; simp
theorem GK(p:aJ)(r:Rule):aY [eF (xO p r) 5,0,0,0,0,0,0,0]=aY [jA p r.read,jA p r.write]:=by
 rw[vals_eq,Wh _ _ _ _ (by decide)]
 exact zQ (PG _)
theorem Wi(p:aJ)(i:Nat):wJ p i=gq p i:=by
 simp only[wJ,gq,pq,nR]
 generalize p.rules.getD i default=r
 cases hv:validName r.name with
 |false=>rfl
 |true =>
 cases ha:(p.rules.take i).any (fun x=>x.name==r.name) with
 |true=>rfl
 |false =>
 simp only[Ed,kind_eq,Bool.not_true,Bool.or_false,cond_false]
 cases hk:(!(qH r.kind p.topology)||kC r p.topology) with
 |true=>rfl
 |false =>
 have hk2:=hk
 rw[<- kind_eq,Bool.or_eq_false_iff,Bool.or_eq_false_iff,Bool.not_eq_false'] at hk2
 obtain⟨⟨k1,_⟩,k2⟩:=hk2
 obtain⟨u1,u2,u3,u4,u5,u6⟩:=Ij k2
 have hk':r.kind=1\/r.kind=2\/r.kind=3\/r.kind=4\/r.kind=5:=by
  simp only[gK,Bool.and_eq_true,decide_eq_true_eq] at k1; omega
 cases he:(tZ p r !=0) with
 |true =>
  rw[aaT p r he]
  rw[Es] at he
  simp only[Ec,sO,he]; rfl
 |false =>
 rw[Es] at he
 simp only[Ec,sO,he,Bool.false_or,cond_false]
 rcases hk' with e|e|e|e|e
 ·have a5:=u5 (by omega)
  have m4:Au p r=false:=by simp[Au,e]
  have d1:Aw p r=false:=by simp[Aw,e]
  have d2:Az p r=false:=by simp[Az,e]
  simp only[gV,m4,d1,d2,a5.2.1,a5.2.2,u6 (by omega),e,yL,Int.reduceBEq,Bool.or_self,Bool.false_and,cond_false,cond_true]
  rw[KC]
  refine zQ (zQ (zQ (zQ ?_)))
  rw[vals_eq,Wh _ _ _ _ (by decide)]
  refine zQ (zQ ?_)
  exact SS _
 ·obtain⟨g1,g2,g3,g4⟩:=u1 (by omega)
  have a5:=u5 (by omega)
  have m4:Au p r=false:=by simp[Au,e]
  have d1:Aw p r=false:=by simp[Aw,e]
  have d2:Az p r=false:=by simp[Az,e]
  simp only[gV,m4,d1,d2,g1,g2,g3,g4,a5.2.1,a5.2.2,u6 (by omega),e,yL,Int.reduceBEq,Bool.or_false,Bool.true_and,cond_false,cond_true,cO]
  cases nN r.ig p.states.length with
  |true=>rfl
  |false =>
   cases nN r.zB p.states.length with
   |true=>rfl
   |false=>exact GK p r
 ·obtain⟨g1,g2,g3,g4⟩:=u1 (by omega)
  have a5:=u5 (by omega)
  have m4:Au p r=false:=by simp[Au,e]
  have d1:Aw p r=false:=by simp[Aw,e]
  have d2:Az p r=false:=by simp[Az,e]
  simp only[gV,m4,d1,d2,g1,g2,g3,g4,a5.2.1,a5.2.2,u6 (by omega),e,yL,Int.reduceBEq,Bool.or_self,Bool.false_and,cond_false,cond_true,AX]
  cases ((r.response.length:Int) !=p.states.length) with
  |true=>rfl
  |false =>
   simp only[cond_false]
   by_cases hz:oz r.response p.states.length=0
   ·rw[hz]; exact GK p r
   ·rw[show(oz r.response p.states.length !=0)=true by simpa using hz,fN hz]; rfl
 ·obtain⟨g1,g2,g3,g4⟩:=u1 (by omega)
  obtain⟨v1,v2⟩:=u2 (by omega) (by omega) (by omega)
  have m4:Au p r=Wj p r:=by
   simp only[Au,Wj,e,mX]; rfl
  have d1:Aw p r=false:=by simp[Aw,e]
  have d2:Az p r=false:=by simp[Az,e]
  have vv:xO p r=false:=by simp[xO,v1,v2]
  simp only[gV,m4,d1,d2,vv,g1,g2,g3,g4,e,yL,Int.reduceBEq,Bool.or_self,Bool.false_and,cond_false,cond_true]
  exact zQ (zQ (zQ (PI _)))
 ·obtain⟨g1,g2,g3,g4⟩:=u1 (by omega)
  obtain⟨v1,v2⟩:=u2 (by omega) (by omega) (by omega)
  have a5:=u5 (by omega)
  have m4:Au p r=false:=by simp[Au,e]
  have vv:xO p r=false:=by simp[xO,v1,v2]
  have d1:Aw p r=((p.topology==4)&&(decide (r.direction<3)||decide (r.direction>4))):=by
   simp only[Aw,e,mX]; rfl
  have d2:Az p r=(!(p.topology==4)&&(decide (r.direction<1)||decide (r.direction>2))):=by
   simp only[Az,e,mX]; rfl
  simp only[gV,m4,d1,d2,vv,g1,g2,g3,g4,a5.2.1,a5.2.2,u6 (by omega),e,yL,Int.reduceBEq,Bool.or_true,Bool.true_and,cond_false,cO]
  cases nN r.ig p.states.length with
  |true=>cases (p.topology==4)<;>rfl
  |false =>
   cases nN r.zB p.states.length with
   |true=>cases (p.topology==4)<;>rfl
   |false =>
    cases (p.topology==4) with
    |true=>cases (decide (r.direction<3)||decide (r.direction>4))<;>rfl
    |false=>cases (decide (r.direction<1)||decide (r.direction>2))<;>rfl
theorem Wn{p:aJ}:(!(gK p.topology 1 4)|| !(gK p.fault 0 3))=qW p:=by
 simp only[mX,qW,Bool.or_assoc]
theorem S.SV(p:aJ)(i:Nat)(hi:i<p.rules.length)(hp:dA p):aj Tryz.prog 138 [.dat (.iC p),.int i] (.int (gq p i)):=by
 rw[<- Wi]; exact S.tY p i hi hp
theorem ab7{h:Hz}{j:Nat}{Z:Nat->Prop}{l:List Str}(hz:Z j)(q:h.get j=some (.row 9 0 (.strs l) [])):T.sub Z h.aI (V.row 0 false (.strs l)).aG (V.own j).aG:=by
 show T.sub Z h.aI (.sl 0 false (l.map eS)) (.own j)
 simp only[T.sub]
 refine⟨trivial,hz,?_,by decide,9,?_⟩
 ·rw[jv]; intro t ht; obtain⟨x,_,rfl⟩:=List.mem_map.1 ht; rfl
 ·have:=cu q
  rw[this]; simp[OV.bJ,Rw.bQ,V.bQ]
theorem S.jX(p:aJ)(hp:dA p):aj Tryz.prog 91 [.dat (.iC p)] (.int (bV p)):=by
 have g1:=hp.states; have g2:=hp.messages; have g3:=hp.values; have g4:=hp.bY; have g5:=hp.initial; have g6:=hp.leader; have g7:=hp.rules
 refine aj.of Bd.jX (by simp) rfl rfl ?_
 conv=>whnf
 refine ah.pure (S.gy p.name) rfl ?_
 conv=>whnf
 refine⟨fun h1=>?_,fun h1=>?_⟩
 ·conv=>whnf
  exact ak.int (by rw[bV,h1]; rfl)
 conv=>whnf
 refine ah.pure (S.aP p.topology 1 4) rfl ?_
 conv=>whnf
 repeat(refine VC.mk id ?_; conv=>whnf)
 refine ah.eY (fun _=>S.aP p.fault 0 3) rfl ?_
 conv=>whnf
 repeat(refine VC.mk (by first|exact id|(intro h; rw[h]; rfl)) ?_; conv=>whnf)
 refine⟨fun h2=>?_,fun h2=>?_⟩
 ·conv=>whnf
  rw[Wn] at h2
  exact ak.int (by rw[bV,h1,h2]; rfl)
 rw[Wn] at h2
 conv=>whnf
 refine⟨fun h3=>?_,fun h3=>?_⟩
 ·conv=>whnf
  exact ak.int (by rw[bV,h1,h2,show((p.states.length:Int)==0)=true from h3]; rfl)
 replace h3:((p.states.length:Int)==0)=false:=h3
 conv=>whnf
 repeat(refine VC.mk (by first|exact id|(intro h; rw[h]; rfl)) ?_; conv=>whnf)
 refine⟨fun h4=>?_,fun h4=>?_⟩
 ·conv=>whnf
  exact ak.int (by rw[bV,h1,h2,h3,show sN p=true from h4]; rfl)
 replace h4:sN p=false:=h4
 have h0:0<p.states.length:=by
  rcases Nat.eq_zero_or_pos p.states.length with e|e
  ·rw[e] at h3; exact absurd h3 (by decide)
  ·exact e
 have hlen:(allNames p).length<2^30:=by simp only[allNames,List.length_append]; omega
 conv=>whnf
 repeat(refine VC.mk (by simp only[yc,xI,Rw.len,List.length_append]; omega) ?_; conv=>whnf)
 refine aX.fz 3 57 0 (.strs (allNames p)) rfl rfl (ab7 rfl rfl) ?_
 conv=>whnf
 refine aX.same [1,3] (fun i:Nat=>[(4,.int i)]) (fun i=>i<=(allNames p).length/\(List.range i).any (KD (allNames p))=false) (fun i=>(allNames p).length-i) 0 rfl (by decide) rfl (fun _=>rfl) ⟨Nat.zero_le _,rfl⟩ ⟨⟨_,rfl,rfl⟩,trivial⟩ ?_
 conv=>whnf
 refine⟨rfl,?_⟩
 rintro i ⟨hi,hall⟩
 conv=>whnf
 refine⟨fun h5=>?_,fun h5=>?_⟩
 ·have hi':i<(allNames p).length:=by have:(i:Int)<((allNames p).length:Int):=of_decide_eq_true h5; omega
  conv=>whnf
  refine .mk (by simp only[Rw.rng] at *; omega) ?_
  conv=>whnf
  refine ah.pure (S.gy ((allNames p).getD i [])) rfl ?_
  conv=>whnf
  repeat(refine VC.mk (by first|exact id|exact fun h=>⟨h,h⟩|(intro h; (repeat' apply And.intro)<;>first|exact h|omega|(simp only[Rw.qV]; omega)|(simp only[Rw.rng]; omega))) ?_; conv=>whnf)
  refine ah.eY (fun _=>S.kY ((allNames p).take i) ((allNames p).getD i []) _ (by rw[List.length_take]; omega)) rfl ?_
  conv=>whnf
  refine .mk (by intro h; rw[h]; rfl) ?_
  conv=>whnf
  refine⟨fun h6=>?_,fun h6=>?_⟩
  ·conv=>whnf
   refine ak.int ?_
   rw[bV,h1,h2,h3,h4,show xG p=2 by rw[xG,yR.2 ⟨i,hi',h6⟩]; rfl]; rfl
  ·conv=>whnf
   refine .mk (by simp only[okI] at *; omega) ?_
   conv=>whnf
   refine⟨i+1,⟨by omega,?_⟩,by omega,⟨⟨_,rfl,rfl⟩,trivial⟩,?_,rfl⟩
   ·rw[List.range_succ,List.any_append,hall]
    simp only[List.any_cons,List.any_nil,Bool.or_false,Bool.false_or]; exact h6
   ·repeat' (first|exact trivial|exact⟨_,rfl,rfl⟩|constructor)
 have hi':(allNames p).length<=i:=by have: ¬ ((i:Int)<((allNames p).length:Int)):=of_decide_eq_false h5; omega
 have e:i=(allNames p).length:=Nat.le_antisymm hi hi'
 subst e
 have h5:xG p=0:=by rw[xG,hall]; rfl
 clear hi hall hi' hlen
 conv=>whnf
 repeat(refine VC.mk (by first|exact id|(intro h; rw[h]; rfl)|(intro h; simp[h]; done)|(intro h; simp_all; done)) ?_; conv=>whnf)
 refine⟨fun h6=>?_,fun h6=>?_⟩
 ·conv=>whnf
  exact ak.int (by rw[bV,h1,h2,h3,h4,h5,show NC p=true from h6]; rfl)
 replace h6:NC p=false:=h6
 conv=>whnf
 refine aX.same [1] (fun i:Nat=>[(5,.int i)]) (fun i=>i<=p.bY.length/\(p.bY.take i).any (fun l=> !(Nr l))=false) (fun i=>p.bY.length-i) 0 rfl (by decide) rfl (fun _=>rfl) ⟨by omega,by simp⟩ ⟨⟨_,rfl,rfl⟩,trivial⟩ ?_
 conv=>whnf
 refine⟨rfl,?_⟩
 rintro i ⟨hi,hall⟩
 conv=>whnf
 refine⟨fun h7=>?_,fun h7=>?_⟩
 ·have hi':i<p.bY.length:=by simpa using h7
  conv=>whnf
  refine .mk (by simp only[Rw.rng] at *; omega) ?_
  conv=>whnf
  refine ah.pure (S.rH (p.bY.getD i default)) rfl ?_
  conv=>whnf
  refine⟨fun h8=>?_,fun h8=>?_⟩
  ·conv=>whnf
   exact ak.int (by rw[bV,h1,h2,h3,h4,h5,h6,iY (d:=default) hi' h8]; rfl)
  ·conv=>whnf
   refine .mk (by simp only[okI] at *; omega) ?_
   conv=>whnf
   refine⟨i+1,⟨by omega,?_⟩,by omega,⟨⟨_,rfl,rfl⟩,trivial⟩,?_,rfl⟩
   ·rw[kL (d:=default) hi' hall]; exact h8
   ·repeat' (first|exact trivial|exact⟨_,rfl,rfl⟩|constructor)
 have hi':p.bY.length<=i:=by simpa using h7
 rw[List.take_of_length_le hi'] at hall
 clear hi hi' h7
 conv=>whnf
 refine ah.pure (S.gQ p.initial p.states.length false (by omega) ⟨by omega,by omega⟩) rfl ?_
 conv=>whnf
 refine⟨fun h7=>?_,fun h7=>?_⟩
 ·replace h7:=Nz h7
  have:vk p=jg p.initial p.states.length:=fN h7
  conv=>whnf
  exact ak.int (by rw[bV,h1,h2,h3,h4,h5,h6,hall,this,show(jg p.initial p.states.length !=0)=true by simpa using h7]; rfl)
 replace h7:=G7 h7
 conv=>whnf
 refine⟨fun h8=>?_,fun h8=>?_⟩
 ·replace h8:((p.initial.length:Int)==0)=true:=h8
  have:vk p=1:=by rw[vk,h7,h8]; rfl
  conv=>whnf
  exact ak.int (by rw[bV,h1,h2,h3,h4,h5,h6,hall,this]; rfl)
 replace h8:((p.initial.length:Int)==0)=false:=h8
 conv=>whnf
 refine ah.pure (S.gQ p.leader p.states.length false (by omega) ⟨by omega,by omega⟩) rfl ?_
 conv=>whnf
 refine⟨fun h9=>?_,fun h9=>?_⟩
 ·replace h9:=Nz h9
  have:vk p=jg p.leader p.states.length:=by rw[vk,h7,h8]; exact fN h9
  conv=>whnf
  exact ak.int (by rw[bV,h1,h2,h3,h4,h5,h6,hall,this,show(jg p.leader p.states.length !=0)=true by simpa using h9]; rfl)
 replace h9:=G7 h9
 have h10:vk p=0:=by rw[vk,h7,h8,h9]; rfl
 conv=>whnf
 refine aX.same [1] (fun i:Nat=>[(8,.int i)]) (fun i=>i<=p.rules.length/\zW p=aY (((List.range p.rules.length).drop i).map (gq p))) (fun i=>p.rules.length-i) 0 rfl (by decide) rfl (fun _=>rfl) ⟨by omega,by simp[zW]⟩ ⟨⟨_,rfl,rfl⟩,trivial⟩ ?_
 conv=>whnf
 refine⟨rfl,?_⟩
 rintro i ⟨hi,hr⟩
 conv=>whnf
 refine⟨fun h11=>?_,fun h11=>?_⟩
 ·have hi':i<p.rules.length:=by simpa using h11
  rw[GL hi'] at hr
  simp only[aY] at hr
  conv=>whnf
  refine ah.pure (S.SV p i hi' hp) rfl ?_
  conv=>whnf
  refine⟨fun h12=>?_,fun h12=>?_⟩
  ·conv=>whnf
   have TT:gq p i≠0:=Nz h12
   rw[if_neg TT] at hr
   exact ak.int (by rw[bV,h1,h2,h3,h4,h5,h6,hall,h10,hr,show(gq p i !=0)=true from h12]; rfl)
  ·conv=>whnf
   refine .mk (by simp only[okI] at *; omega) ?_
   conv=>whnf
   have TT:gq p i=0:=G7 h12
   rw[if_pos TT] at hr
   refine⟨i+1,⟨by omega,hr⟩,by omega,⟨⟨_,rfl,rfl⟩,trivial⟩,?_,rfl⟩
   repeat' (first|exact trivial|exact⟨_,rfl,rfl⟩|constructor)
 have hi':p.rules.length<=i:=by simpa using h11
 rw[List.drop_eq_nil_of_le (by simpa using hi')] at hr
 conv=>whnf
 refine ah.pure (S.lK p hp) rfl ?_
 conv=>whnf
 refine⟨fun h12=>?_,fun h12=>?_⟩
 ·conv=>whnf
  exact ak.int (by rw[bV,h1,h2,h3,h4,h5,h6,hall,h10,hr,show decide (((wH p.rules).length:Int)>3)=true from h12]; rfl)
 ·conv=>whnf
  exact ak.int (by rw[bV,h1,h2,h3,h4,h5,h6,hall,h10,hr,show decide (((wH p.rules).length:Int)>3)=false from h12]; rfl)
def ND(p:aJ)(i:Nat):V:=.agg [.bool (((p.topology==1)&&((p.values.length:Int)==0))&&(p.rules.take i).foldl NG true),.bool (pV p&& !((p.rules.take i).foldl SX false)),.bool ((p.topology==2)||(p.topology==3)),.bool (p.topology==4),.bool (pV p&&decide ((p.states.length:Int)<=4))]
def badR(r:Rule):Bool:=r.kind !=1||decide (r.fr>=r.to)||decide ((r.ex.length:Int)>0)||decide ((r.all.length:Int)>0)
theorem Yu{acc:Bool}{r:Rule}(h:badR r=true):NG acc r=false:=by
 simp only[badR,Bool.or_eq_true,bne_iff_ne,decide_eq_true_eq] at h
 simp only[NG]
 rw[Bool.eq_false_iff]; intro q
 simp only[Bool.and_eq_true,beq_iff_eq,decide_eq_true_eq] at q
 omega
theorem aaU{acc:Bool}{r:Rule}(h:badR r=false):NG acc r=acc:=by
 simp only[badR,Bool.or_eq_false_iff,bne_eq_false_iff_eq,decide_eq_false_iff_not] at h
 obtain⟨⟨⟨a,b⟩,c⟩,d⟩:=h
 simp only[NG]
 rw[show(r.kind==1)=true from beq_iff_eq.2 a,decide_eq_true (by omega),show((r.ex.length:Int)==0)=true from beq_iff_eq.2 (by omega),show((r.all.length:Int)==0)=true from beq_iff_eq.2 (by omega)]
 simp
theorem acU(p:aJ):ND p 0= .agg [.bool ((p.topology==1)&&((p.values.length:Int)==0)),.bool (pV p),.bool ((p.topology==2)||(p.topology==3)),.bool (p.topology==4),.bool (pV p&&decide ((p.states.length:Int)<=4))]:=by
 simp[ND]
theorem Cj(p:aJ){i:Nat}(hi:i<p.rules.length):ND p (i+1) =
  .agg [.bool (bif badR (p.rules.getD i default) then false else((p.topology==1)&&((p.values.length:Int)==0))&&(p.rules.take i).foldl NG true),
   .bool (bif decide (((p.rules.getD i default).all.length:Int)>0) then false else pV p&& !((p.rules.take i).foldl SX false)),.bool ((p.topology==2)||(p.topology==3)),.bool (p.topology==4),.bool (pV p&&decide ((p.states.length:Int)<=4))]:=by
 simp only[ND,yK (d:=default) hi]
 cases hb:badR (p.rules.getD i default) with
 |true =>
  rw[Yu hb,SX]
  cases decide (((p.rules.getD i default).all.length:Int)>0)<;>simp
 |false =>
  rw[aaU hb,SX]
  cases decide (((p.rules.getD i default).all.length:Int)>0)<;>simp
theorem S.kZ(p:aJ)(hp:dA p):aj Tryz.prog 40 [.dat (.iC p)] (DC p):=by
 have g1:=hp.states; have g2:=hp.messages; have g3:=hp.values; have g4:=hp.bY; have g7:=hp.rules
 refine aj.of Bd.kZ (by simp) rfl rfl ?_
 conv=>whnf
 refine ah.pure (S.jX p hp) rfl ?_
 conv=>whnf
 refine⟨fun h1=>?_,fun h1=>?_⟩
 ·conv=>whnf
  refine ak.eqv ?_
  rw[DC,h1]; rfl
 have h1':bV p=0:=G7 h1
 conv=>whnf
 repeat(refine VC.mk (by first|exact id|(intro h; rw[h]; rfl)) ?_; conv=>whnf)
 refine aX.objs 100 [1,2,7] (fun i:Nat=>[(8,.int i)]) (fun i=>[(0,.box 27 11 (.dat (.iC p))),(1,.box 62 6 (ab8 KZ)),(58,.box 62 6 (ND p i))]) (fun i=>i<=p.rules.length) (fun i=>p.rules.length-i) 0 [0,1,58] rfl (by decide) (fun _=>rfl) (Nat.zero_le _) ?_ ?_ ?_
 ·exact⟨⟨_,rfl,.eq rfl⟩,trivial⟩
 ·refine⟨⟨rfl,nofun,rfl,rfl,rfl,_,rfl,rfl,rfl,jf.of_eq rfl⟩,⟨rfl,nofun,rfl,rfl,rfl,_,rfl,rfl,rfl,jf.of_eq rfl⟩,⟨rfl,nofun,rfl,rfl,rfl,_,rfl,rfl,rfl,jf.of_eq ?_⟩,trivial⟩
  rw[acU]; rfl
 conv=>whnf
 refine⟨⟨⟨_,rfl,.eq rfl⟩,⟨_,rfl,.eq rfl⟩,⟨_,rfl,.eq rfl⟩,trivial⟩,rfl,?_⟩
 rintro i hi
 have g8:=hp.rule i
 have g9:=g8.ex; have g10:=g8.all
 conv=>whnf
 refine⟨fun h3=>?_,fun h3=>?_⟩
 ·have hi':i<p.rules.length:=by simpa using h3
  conv=>whnf
  repeat(refine VC.mk (by first|exact id|exact fun h=>⟨h,h⟩|(intro h; rw[h]; rfl)|(simp only[Rw.rng] at *; omega)) ?_; conv=>whnf)
  refine⟨fun h4=>?_,fun h4=>?_⟩
  ·replace h4:badR (p.rules.getD i default)=true:=h4
   conv=>whnf
   refine⟨fun h5=>?_,fun h5=>?_⟩
   ·replace h5:decide (((p.rules.getD i default).all.length:Int)>0)=true:=h5
    conv=>whnf
    refine .mk (by simp only[okI] at *; omega) ?_
    conv=>whnf
    refine⟨i+1,[0,1,58],by omega,by omega,⟨⟨_,rfl,.eq rfl⟩,trivial⟩,⟨⟨_,rfl,.eq rfl⟩,⟨_,rfl,.eq rfl⟩,⟨_,rfl,.eq rfl⟩,trivial⟩,⟨rfl,nofun,rfl,rfl,rfl,_,rfl,rfl,rfl,jf.of_eq rfl⟩,⟨rfl,nofun,rfl,rfl,rfl,_,rfl,rfl,rfl,jf.of_eq rfl⟩,⟨rfl,nofun,rfl,rfl,rfl,_,rfl,rfl,rfl,jf.of_eq ?_⟩,trivial⟩
    rw[Cj p hi',h4,h5]; rfl
   ·replace h5:decide (((p.rules.getD i default).all.length:Int)>0)=false:=h5
    conv=>whnf
    refine .mk (by simp only[okI] at *; omega) ?_
    conv=>whnf
    refine⟨i+1,[0,1,58],by omega,by omega,⟨⟨_,rfl,.eq rfl⟩,trivial⟩,⟨⟨_,rfl,.eq rfl⟩,⟨_,rfl,.eq rfl⟩,⟨_,rfl,.eq rfl⟩,trivial⟩,⟨rfl,nofun,rfl,rfl,rfl,_,rfl,rfl,rfl,jf.of_eq rfl⟩,⟨rfl,nofun,rfl,rfl,rfl,_,rfl,rfl,rfl,jf.of_eq rfl⟩,⟨rfl,nofun,rfl,rfl,rfl,_,rfl,rfl,rfl,jf.of_eq ?_⟩,trivial⟩
    rw[Cj p hi',h4,h5]; rfl
  ·replace h4:badR (p.rules.getD i default)=false:=h4
   conv=>whnf
   refine⟨fun h5=>?_,fun h5=>?_⟩
   ·replace h5:decide (((p.rules.getD i default).all.length:Int)>0)=true:=h5
    conv=>whnf
    refine .mk (by simp only[okI] at *; omega) ?_
    conv=>whnf
    refine⟨i+1,[0,1,58],by omega,by omega,⟨⟨_,rfl,.eq rfl⟩,trivial⟩,⟨⟨_,rfl,.eq rfl⟩,⟨_,rfl,.eq rfl⟩,⟨_,rfl,.eq rfl⟩,trivial⟩,⟨rfl,nofun,rfl,rfl,rfl,_,rfl,rfl,rfl,jf.of_eq rfl⟩,⟨rfl,nofun,rfl,rfl,rfl,_,rfl,rfl,rfl,jf.of_eq rfl⟩,⟨rfl,nofun,rfl,rfl,rfl,_,rfl,rfl,rfl,jf.of_eq ?_⟩,trivial⟩
    rw[Cj p hi',h4,h5]; rfl
   ·replace h5:decide (((p.rules.getD i default).all.length:Int)>0)=false:=h5
    conv=>whnf
    refine .mk (by simp only[okI] at *; omega) ?_
    conv=>whnf
    refine⟨i+1,[0,1,58],by omega,by omega,⟨⟨_,rfl,.eq rfl⟩,trivial⟩,⟨⟨_,rfl,.eq rfl⟩,⟨_,rfl,.eq rfl⟩,⟨_,rfl,.eq rfl⟩,trivial⟩,⟨rfl,nofun,rfl,rfl,rfl,_,rfl,rfl,rfl,jf.of_eq rfl⟩,⟨rfl,nofun,rfl,rfl,rfl,_,rfl,rfl,rfl,jf.of_eq rfl⟩,⟨rfl,nofun,rfl,rfl,rfl,_,rfl,rfl,rfl,jf.of_eq ?_⟩,trivial⟩
    rw[Cj p hi',h4,h5]; rfl
 have hi':p.rules.length<=i:=by simpa using h3
 have e:i=p.rules.length:=Nat.le_antisymm hi hi'
 subst e
 conv=>whnf
 refine ak.eqv ?_
 rw[DC,h1',mQ]
 simp only[List.take_length]
 rfl
theorem EO{x:Int}:(decide (x<0)||decide (1048576<x))= !(CG x):=by
 unfold CG; rw[Bool.eq_iff_iff]; simp
def Je(p:aJ):Int:=bif bV p !=0 then bV p else bif !(mQ p).cover&& !(mQ p).monadic then 7 else 0
def uM(p:aJ)(e:Elem):Bool:=((((e.counts.length:Int) !=p.states.length)|| !(e.counts.all CG))||decide (e.value<0))||decide (e.value>=max 1 (p.values.length:Int))
def Ib(p:aJ)(e:Elem):Int:=bif Je p !=0 then Je p else eF (uM p e) 1
theorem ab9(p:aJ):Je p=bif ((bV p==0)&& !(bif bV p !=0 then KZ else mQ p).cover&& !(bif bV p !=0 then KZ else mQ p).monadic) then 7 else bV p:=by
 unfold Je bne
 cases hz:bV p==0 with
 |true=>simp only[Bool.not_true,cond_false,Bool.true_and]; rw[show bV p=0 from beq_iff_eq.1 hz]
 |false=>rfl
theorem S.gW(p:aJ)(hp:dA p):aj Tryz.prog 142 [.dat (.iC p)] (.int (Je p)):=by
 refine aj.of Bd.gW (by simp) rfl rfl ?_
 conv=>whnf
 refine ah.pure (S.fC p hp) rfl ?_
 conv=>whnf
 repeat(refine VC.mk id ?_; conv=>whnf)
 refine⟨fun h1=>?_,fun h1=>?_⟩
 ·conv=>whnf
  exact ak.int (by rw[ab9,h1]; rfl)
 ·conv=>whnf
  exact ak.int (by rw[ab9,h1]; rfl)
theorem S.fM(p:aJ)(e:Elem)(hp:dA p)(he:e.counts.length<2^30):aj Tryz.prog 143 [.dat (.iC p),.dat (.elem e)] (.int (eF (uM p e) 1)):=by
 have g1:=hp.states
 have g3:=hp.values
 refine aj.of Bd.fM (by simp) rfl rfl ?_
 conv=>whnf
 repeat(refine VC.mk id ?_; conv=>whnf)
 refine ah.eY (fun _=>S.jr e.counts false (by omega)) rfl ?_
 conv=>whnf
 repeat(refine VC.mk (by first|exact id|exact fun h=>⟨h,h⟩|(intro h; rw[h]; rfl)) ?_; conv=>whnf)
 refine⟨fun h1=>?_,fun h1=>?_⟩
 ·conv=>whnf
  exact ak.int (by rw[show uM p e=true from h1]; rfl)
 ·conv=>whnf
  exact ak.int (by rw[show uM p e=false from h1]; rfl)
theorem S.dN(p:aJ)(e:Elem)(hp:dA p)(he:e.counts.length<2^30):aj Tryz.prog 96 [.dat (.iC p),.dat (.elem e)] (.int (Ib p e)):=by
 refine aj.of Bd.dN (by simp) rfl rfl ?_
 conv=>whnf
 refine ah.pure (S.gW p hp) rfl ?_
 conv=>whnf
 refine⟨fun h1=>?_,fun h1=>?_⟩
 ·conv=>whnf
  exact ak.int (by rw[Ib,h1]; rfl)
 ·conv=>whnf
  refine ah.pure (S.fM p e hp he) rfl ?_
  conv=>whnf
  exact ak.int (by rw[Ib,h1]; rfl)
theorem PK(p:aJ)(e:Elem):uM p e=(((((e.counts.length:Int) !=p.states.length)||decide (e.value<0))||decide (e.value>=max 1 (p.values.length:Int)))|| !(e.counts.all CG)):=by
 unfold uM
 cases ((e.counts.length:Int) !=p.states.length)<;>cases (e.counts.all CG)<;>cases decide (e.value<0)<;>cases decide (e.value>=max 1 (p.values.length:Int))<;>rfl
theorem S.nK(p:aJ)(e:Elem)(hp:dA p)(he:e.counts.length<2^30):aj Tryz.prog 41 [.dat (.iC p),.dat (.elem e)] (.bool (!(uM p e))):=by
 have g1:=hp.states
 have g3:=hp.values
 refine aj.of Bd.nK (by simp) rfl rfl ?_
 conv=>whnf
 repeat(refine VC.mk (by first|exact id|exact fun h=>⟨h,h⟩|(intro h; rw[h]; rfl)) ?_; conv=>whnf)
 refine⟨fun h1=>?_,fun h1=>?_⟩
 ·conv=>whnf
  refine ak.bool ?_
  rw[PK,show((((e.counts.length:Int) !=p.states.length)||decide (e.value<0))||decide (e.value>=max 1 (p.values.length:Int)))=true from h1]; rfl
 conv=>whnf
 refine aX.same [2,3] (fun i:Nat=>[(5,.int i)]) (fun i=>i<=e.counts.length/\(e.counts.take i).all CG=true) (fun i=>e.counts.length-i) 0 rfl (by decide) rfl (fun _=>rfl) ⟨by omega,by simp⟩ ⟨⟨_,rfl,rfl⟩,trivial⟩ ?_
 conv=>whnf
 refine⟨rfl,?_⟩
 rintro i ⟨hi,hall⟩
 conv=>whnf
 refine⟨fun h3=>?_,fun h3=>?_⟩
 ·have hi':i<e.counts.length:=by simpa using h3
  conv=>whnf
  repeat(refine VC.mk (by first|exact id|(intro h; rw[h]; rfl)|(intro h; (repeat' apply And.intro)<;>first|exact h|omega|(simp only[Rw.qV]; omega)|(simp only[Rw.rng]; omega))|(simp only[Rw.rng] at *; first|omega|(simp_all; done)|(simp_all; omega))) ?_; conv=>whnf)
  refine⟨fun h4=>?_,fun h4=>?_⟩
  ·conv=>whnf
   refine ak.bool ?_
   replace h4:(decide (e.counts.getD i 0<0)||decide (1048576<e.counts.getD i 0))=true:=h4
   rw[EO] at h4
   rw[PK,nY (d:=0) hi' (by simpa using h4)]; simp
  ·conv=>whnf
   refine .mk (by simp only[okI] at *; first|omega|(simp_all; done)|(simp_all; omega)) ?_
   conv=>whnf
   replace h4:(decide (e.counts.getD i 0<0)||decide (1048576<e.counts.getD i 0))=false:=h4
   rw[EO] at h4
   refine⟨i+1,⟨by omega,?_⟩,by omega,⟨⟨_,rfl,rfl⟩,trivial⟩,?_,rfl⟩
   ·rw[pI (d:=0) hi' hall]; simpa using h4
   ·repeat' (first|exact trivial|exact⟨_,rfl,rfl⟩|constructor)
 ·have hi':e.counts.length<=i:=by simpa using h3
  rw[List.take_of_length_le hi'] at hall
  conv=>whnf
  refine ak.bool ?_
  rw[PK,hall,show((((e.counts.length:Int) !=p.states.length)||decide (e.value<0))||decide (e.value>=max 1 (p.values.length:Int)))=false from h1]; rfl
theorem S.mV(e:Elem)(hl:e.counts.length<2^40):aj Tryz.prog 42 [.dat (.elem e)] (.int (uY e)):=by
 refine aj.of Bd.mV (by simp) rfl rfl ?_
 conv=>whnf
 refine⟨fun h1=>?_,fun h1=>?_⟩
 ·have h:6<e.counts.length:=by
   have:(6:Int)<e.counts.length:=of_decide_eq_true h1
   omega
  conv=>whnf
  exact ak.int (by rw[uY,if_pos h])
 have h: ¬ 6<e.counts.length:=by
  have: ¬ (6:Int)<e.counts.length:=of_decide_eq_false h1
  omega
 conv=>whnf
 refine aX.same [1] (fun i:Nat=>[(4,.int i),(3,.int (e.counts.take i).sum)]) (fun i=>i<=e.counts.length/\(e.counts.take i).all CG=true) (fun i=>e.counts.length-i) 0 rfl (by decide) rfl (fun _=>rfl) ⟨by omega,by simp⟩ ⟨⟨_,rfl,rfl⟩,⟨_,rfl,rfl⟩,trivial⟩ ?_
 conv=>whnf
 refine⟨rfl,?_⟩
 rintro i ⟨hi,hall⟩
 have hb:=uZ hall
 have hb':((e.counts.take i).length:Int)<=6:=by simp; omega
 conv=>whnf
 refine⟨fun h3=>?_,fun h3=>?_⟩
 ·have hi':i<e.counts.length:=by simpa using h3
  have hs:=EX hi'
  conv=>whnf
  repeat(refine VC.mk (by first|exact id|(intro h; rw[h]; rfl)|(intro h; (repeat' apply And.intro)<;>first|exact h|omega|(simp only[Rw.qV]; omega)|(simp only[Rw.rng]; omega))|(simp only[Rw.rng] at *; first|omega|(simp_all; done)|(simp_all; omega))) ?_; conv=>whnf)
  refine⟨fun h4=>?_,fun h4=>?_⟩
  ·conv=>whnf
   replace h4:(decide (e.counts.getD i 0<0)||decide (1048576<e.counts.getD i 0))=true:=h4
   rw[EO] at h4
   exact ak.int (by rw[uY,if_neg h,nY (d:=0) hi' (by simpa using h4)]; rfl)
  ·replace h4:(decide (e.counts.getD i 0<0)||decide (1048576<e.counts.getD i 0))=false:=h4
   rw[EO] at h4
   have h4':CG (e.counts.getD i 0)=true:=by simpa using h4
   have Zc:(e.counts.take (i+1)).all CG=true:=by rw[pI (d:=0) hi' hall]; exact h4'
   have hc:=uZ Zc
   have hc':((e.counts.take (i+1)).length:Int)<=6:=by simp; omega
   conv=>whnf
   repeat(refine VC.mk (by first|(simp only[okI,Int.toNat_natCast] at *; rw[<- hs]; omega)|(simp only[okI,Rw.rng] at *; first|omega|(simp_all; done)|(simp_all; omega))) ?_; conv=>whnf)
   refine⟨i+1,⟨by omega,Zc⟩,by omega,⟨⟨_,rfl,rfl⟩,⟨_,rfl,?_⟩,trivial⟩,?_,rfl⟩
   ·rw[hs]; simp[V.aG,pX]
   ·repeat' (first|exact trivial|exact⟨_,rfl,rfl⟩|constructor)
 ·have hi':e.counts.length<=i:=by simpa using h3
  rw[List.take_of_length_le hi'] at hall
  rw[List.take_of_length_le hi']
  conv=>whnf
  exact ak.int (by rw[uY,if_neg h,if_pos hall])
end Go.Proofs.YtkomllaebngbfaaGreatDoor
