/-
 The two programs' rules for a protocol's rules say the same. No condition.
-/
import Derived.Test.YtifbibbicplneaaGreatDoorRa
import Derived.Test.YtifbibbicplneaaGreatDoorLf
namespace Go.Proofs.YtifbibbicplneaaGreatDoor
open Go.Ab Go.Proofs
theorem vG{x n:Int}:(!(gQ x 0 (n-1)))=nK x n:=by rw[oJ,Bool.not_not]
theorem vals_eq(p:aX)(r:Rule):zy p r=((decide (r.read< -1)||decide (r.read>=p.values.length))||(decide (r.write< -1)||decide (r.write>=p.values.length))):=by
 simp only[zy,vG,nK]
 rw[Bool.eq_iff_iff]; simp; omega
theorem ZG(a b:Bool)(v:Int)(r:List Int)(h:v≠0):aT (dV (a||b) v::r)=aT (dV a v::dV b v::r):=by
 cases a<;>cases b<;>simp[dV,aT,h]
theorem N7(p:aX)(l:List zF)(r:List Int):aT (wU p l::r)=aT (jW p l::dV (decide ((l.length:Int)>2)) 4::r):=by
 by_cases h:jW p l=0
 ·rw[show wU p l=dV (decide ((l.length:Int)>2)) 4 from if_pos h,h]; rfl
 ·rw[show wU p l=jW p l from if_neg h,fN h,fN h]
theorem Ua{c d:Bool}:(bif c then true else d)=(c||d):=by cases c<;>rfl
theorem len_nil{α:Type}{l:List α}(h:decide ((l.length:Int)>0)=false):l=[]:=by
 cases l with
 |nil=>rfl
 |cons a r=>simp at h
theorem KN{r:Rule}{t:Int}(h:lQ r t=false) :
  (r.kind≠1->r.guards=[]/\r.ex=[]/\r.all=[]/\r.send=[])/\(r.kind≠1->r.kind≠2->r.kind≠3->r.read= -1/\r.write= -1) /\
  (r.kind≠3->r.response=[])/\(r.kind≠5->r.direction=0)/\(r.kind≠4->r.pos=0/\r.left=[]/\r.right=[])/\(¬(r.kind=4/\t=4)->r.parent=[]):=by
 simp only[lQ,Ua,Bool.or_eq_false_iff] at h
 obtain⟨h1,h2,h3,⟨h4,h5⟩,h6,h7⟩:=h
 refine⟨fun k=>?_,fun k1 k2 k3=>?_,fun k=>?_,fun k=>?_,fun k=>?_,fun k=>?_⟩
 ·simp only[beq_eq_false_iff_ne.2 k,Bool.not_false,Bool.true_and,Bool.or_eq_false_iff] at h1
  exact⟨len_nil h1.1.1.1,len_nil h1.1.1.2,len_nil h1.1.2,len_nil h1.2⟩
 ·simp only[beq_eq_false_iff_ne.2 k1,beq_eq_false_iff_ne.2 k2,beq_eq_false_iff_ne.2 k3,Bool.not_false,Bool.true_and,Bool.or_eq_false_iff] at h2
  exact⟨Rn h2.1,Rn h2.2⟩
 ·simp only[beq_eq_false_iff_ne.2 k,Bool.not_false,Bool.true_and] at h4
  exact len_nil h4
 ·simp only[beq_eq_false_iff_ne.2 k,Bool.not_false,Bool.true_and] at h5
  exact Rn h5
 ·simp only[beq_eq_false_iff_ne.2 k,Bool.not_false,Bool.true_and,Bool.or_eq_false_iff] at h6
  exact⟨Rn h6.1.1,len_nil h6.1.2,len_nil h6.2⟩
 ·refine len_nil ?_
  rw[Bool.and_eq_false_iff] at h7
  rcases h7 with h7|h7
  ·exact h7
  ·simp only[Bool.not_eq_false',Bool.and_eq_true,beq_iff_eq] at h7
   exact absurd h7 k
theorem kind_eq{r:Rule}{t:Int}:((!(gQ r.kind 1 5)||(decide (r.kind<=3) !=(t==1)))||lQ r t)=(!(uq r.kind t)||kM r t):=by
 by_cases hk:1<=r.kind/\r.kind<=5
 ·rw[zO hk]
  congr 1
  have hk':r.kind=1\/r.kind=2\/r.kind=3\/r.kind=4\/r.kind=5:=by omega
  rcases hk' with e|e|e|e|e<;>rw[e]<;>cases ht:(t==1)<;>simp[gQ,uq,ht]
 ·have h1:gQ r.kind 1 5=false:=by rw[gQ,Bool.and_eq_false_iff]; simp; omega
  have h2:uq r.kind t=false:=by
   have:r.kind≠1/\r.kind≠2/\r.kind≠3/\r.kind≠4/\r.kind≠5:=by omega
   obtain⟨a,b,c,d,e⟩:=this
   simp[uq,a,b,c,d,e]
  rw[h1,h2]; rfl
theorem G5(p:aX)(r:Rule):(wo p r !=0)=(nK r.fr p.states.length||nK r.to p.states.length):=by
 simp only[wo,cZ]
 cases nK r.fr p.states.length<;>cases nK r.to p.states.length<;>rfl
theorem adz(p:aX)(r:Rule)(h:(wo p r !=0)=true):wo p r=5:=by
 rw[G5] at h
 simp only[wo,cZ]
 revert h
 cases nK r.fr p.states.length<;>cases nK r.to p.states.length<;>intro h<;>first|rfl|cases h
theorem AB(n:Int):dO [] n=0:=rfl
theorem Xi(x:Int):aT [x,0,0,0,0,0,0]=aT [x]:=by
 simp only[aT]; simp
theorem CG{a:Int}{X Y:List Int}(h:aT X=aT Y):aT (a::X)=aT (a::Y):=by simp only[aT,h]
theorem TM(x:Int):aT [x,0,0,0,0,0,0,0]=aT [x]:=by
 simp only[aT]; simp
theorem TN(x:Int):aT [x,0,0]=aT [x]:=by
 simp only[aT]; simp
theorem JO(p:aX)(r:Rule):aT [dV (zy p r) 5,0,0,0,0,0,0,0]=aT [jI p r.read,jI p r.write]:=by
 rw[vals_eq,ZG _ _ _ _ (by decide)]
 exact CG (TM _)
theorem ZH(p:aX)(i:Nat):yD p i=gK p i:=by
 simp only[yD,gK,rG,qH]
 generalize p.rules.getD i default=r
 cases hv:validName r.name with
 |false=>rfl
 |true =>
 cases ha:(p.rules.take i).any (fun x=>x.name==r.name) with
 |true=>rfl
 |false =>
 simp only[Gv,kind_eq,Bool.not_true,Bool.or_false,cond_false]
 cases hk:(!(uq r.kind p.topology)||kM r p.topology) with
 |true=>rfl
 |false =>
 have hk2:=hk
 rw[<- kind_eq,Bool.or_eq_false_iff,Bool.or_eq_false_iff,Bool.not_eq_false'] at hk2
 obtain⟨⟨k1,_⟩,k2⟩:=hk2
 obtain⟨u1,u2,u3,u4,u5,u6⟩:=KN k2
 have hk':r.kind=1\/r.kind=2\/r.kind=3\/r.kind=4\/r.kind=5:=by
  simp only[gQ,Bool.and_eq_true,decide_eq_true_eq] at k1; omega
 cases he:(wo p r !=0) with
 |true =>
  rw[adz p r he]
  rw[G5] at he
  simp only[Gu,vG,he]; rfl
 |false =>
 rw[G5] at he
 simp only[Gu,vG,he,Bool.false_or,cond_false]
 rcases hk' with e|e|e|e|e
 ·have a5:=u5 (by omega)
  have m4:DF p r=false:=by simp[DF,e]
  have d1:DI p r=false:=by simp[DI,e]
  have d2:DJ p r=false:=by simp[DJ,e]
  simp only[gV,m4,d1,d2,a5.2.1,a5.2.2,u6 (by omega),e,AB,Int.reduceBEq,Bool.or_self,Bool.false_and,cond_false,cond_true]
  rw[N7]
  refine CG (CG (CG (CG ?_)))
  rw[vals_eq,ZG _ _ _ _ (by decide)]
  refine CG (CG ?_)
  exact Xi _
 ·obtain⟨g1,g2,g3,g4⟩:=u1 (by omega)
  have a5:=u5 (by omega)
  have m4:DF p r=false:=by simp[DF,e]
  have d1:DI p r=false:=by simp[DI,e]
  have d2:DJ p r=false:=by simp[DJ,e]
  simp only[gV,m4,d1,d2,g1,g2,g3,g4,a5.2.1,a5.2.2,u6 (by omega),e,AB,Int.reduceBEq,Bool.or_false,Bool.true_and,cond_false,cond_true,cZ]
  cases nK r.gJ p.states.length with
  |true=>rfl
  |false =>
   cases nK r.BH p.states.length with
   |true=>rfl
   |false=>exact JO p r
 ·obtain⟨g1,g2,g3,g4⟩:=u1 (by omega)
  have a5:=u5 (by omega)
  have m4:DF p r=false:=by simp[DF,e]
  have d1:DI p r=false:=by simp[DI,e]
  have d2:DJ p r=false:=by simp[DJ,e]
  simp only[gV,m4,d1,d2,g1,g2,g3,g4,a5.2.1,a5.2.2,u6 (by omega),e,AB,Int.reduceBEq,Bool.or_self,Bool.false_and,cond_false,cond_true,DW]
  cases ((r.response.length:Int) !=p.states.length) with
  |true=>rfl
  |false =>
   simp only[cond_false]
   by_cases hz:pq r.response p.states.length=0
   ·rw[hz]; exact JO p r
   ·rw[show(pq r.response p.states.length !=0)=true by simpa using hz,fN hz]; rfl
 ·obtain⟨g1,g2,g3,g4⟩:=u1 (by omega)
  obtain⟨v1,v2⟩:=u2 (by omega) (by omega) (by omega)
  have m4:DF p r=ZI p r:=by
   simp only[DF,ZI,e,ou]; rfl
  have d1:DI p r=false:=by simp[DI,e]
  have d2:DJ p r=false:=by simp[DJ,e]
  have vv:zy p r=false:=by simp[zy,v1,v2]
  simp only[gV,m4,d1,d2,vv,g1,g2,g3,g4,e,AB,Int.reduceBEq,Bool.or_self,Bool.false_and,cond_false,cond_true]
  exact CG (CG (CG (TN _)))
 ·obtain⟨g1,g2,g3,g4⟩:=u1 (by omega)
  obtain⟨v1,v2⟩:=u2 (by omega) (by omega) (by omega)
  have a5:=u5 (by omega)
  have m4:DF p r=false:=by simp[DF,e]
  have vv:zy p r=false:=by simp[zy,v1,v2]
  have d1:DI p r=((p.topology==4)&&(decide (r.direction<3)||decide (r.direction>4))):=by
   simp only[DI,e,ou]; rfl
  have d2:DJ p r=(!(p.topology==4)&&(decide (r.direction<1)||decide (r.direction>2))):=by
   simp only[DJ,e,ou]; rfl
  simp only[gV,m4,d1,d2,vv,g1,g2,g3,g4,a5.2.1,a5.2.2,u6 (by omega),e,AB,Int.reduceBEq,Bool.or_true,Bool.true_and,cond_false,cZ]
  cases nK r.gJ p.states.length with
  |true=>cases (p.topology==4)<;>rfl
  |false =>
   cases nK r.BH p.states.length with
   |true=>cases (p.topology==4)<;>rfl
   |false =>
    cases (p.topology==4) with
    |true=>cases (decide (r.direction<3)||decide (r.direction>4))<;>rfl
    |false=>cases (decide (r.direction<1)||decide (r.direction>2))<;>rfl
theorem ZJ{p:aX}:(!(gQ p.topology 1 4)|| !(gQ p.fault 0 3))=uo p:=by
 simp only[ou,uo,Bool.or_assoc]
theorem S.Xj(p:aX)(i:Nat)(hi:i<p.rules.length)(hp:dn p):aj Tryz.prog 161 [.dat (.bW p),.int i] (.int (gK p i)):=by
 rw[<- ZH]; exact S.AA p i hi hp
theorem abA{h:Hz}{j:Nat}{Z:Nat->Prop}{l:List Str}(hz:Z j)(q:h.get j=some (.row 9 0 (.strs l) [])):T.sub Z h.au (V.row 0 false (.strs l)).aI (V.own j).aI:=by
 show T.sub Z h.au (.sl 0 false (l.map eS)) (.own j)
 simp only[T.sub]
 refine⟨trivial,hz,?_,by decide,9,?_⟩
 ·rw[gu]; intro t ht; obtain⟨x,_,rfl⟩:=List.mem_map.1 ht; rfl
 ·have:=aJ q
  rw[this]; simp[OV.aH,Rw.aW,V.aW]
theorem S.oz(p:aX)(hp:dn p):aj Tryz.prog 133 [.dat (.bW p)] (.int (dH p)):=by
 have g1:=hp.states; have g2:=hp.messages; have g3:=hp.values; have g4:=hp.bZ; have g5:=hp.initial; have g6:=hp.leader; have g7:=hp.rules
 refine aj.of Bd.oz (by simp) rfl rfl ?_
 conv=>whnf
 refine ah.pure (S.jA p.name) rfl ?_
 conv=>whnf
 refine⟨fun h1=>?_,fun h1=>?_⟩
 ·conv=>whnf
  exact ak.int (by rw[dH,h1]; rfl)
 conv=>whnf
 refine ah.pure (S.bG p.topology 1 4) rfl ?_
 conv=>whnf
 repeat(refine VC.mk id ?_; conv=>whnf)
 refine ah.fG (fun _=>S.bG p.fault 0 3) rfl ?_
 conv=>whnf
 repeat(refine VC.mk (by first|exact id|(intro h; rw[h]; rfl)) ?_; conv=>whnf)
 refine⟨fun h2=>?_,fun h2=>?_⟩
 ·conv=>whnf
  rw[ZJ] at h2
  exact ak.int (by rw[dH,h1,h2]; rfl)
 rw[ZJ] at h2
 conv=>whnf
 refine⟨fun h3=>?_,fun h3=>?_⟩
 ·conv=>whnf
  exact ak.int (by rw[dH,h1,h2,show((p.states.length:Int)==0)=true from h3]; rfl)
 replace h3:((p.states.length:Int)==0)=false:=h3
 conv=>whnf
 repeat(refine VC.mk (by first|exact id|(intro h; rw[h]; rfl)) ?_; conv=>whnf)
 refine⟨fun h4=>?_,fun h4=>?_⟩
 ·conv=>whnf
  exact ak.int (by rw[dH,h1,h2,h3,show vF p=true from h4]; rfl)
 replace h4:vF p=false:=h4
 have h0:0<p.states.length:=by
  rcases Nat.eq_zero_or_pos p.states.length with e|e
  ·rw[e] at h3; exact absurd h3 (by decide)
  ·exact e
 have hlen:(allNames p).length<2^30:=by simp only[allNames,List.length_append]; omega
 conv=>whnf
 repeat(refine VC.mk (by simp only[kU,kD,Rw.len,List.length_append]; omega) ?_; conv=>whnf)
 refine aF.fz 3 57 0 (.strs (allNames p)) rfl rfl (abA rfl rfl) ?_
 conv=>whnf
 refine aF.same [1,3] (fun i:Nat=>[(4,.int i)]) (fun i=>i<=(allNames p).length/\(List.range i).any (N8 (allNames p))=false) (fun i=>(allNames p).length-i) 0 rfl (by decide) rfl (fun _=>rfl) ⟨Nat.zero_le _,rfl⟩ ⟨⟨_,rfl,rfl⟩,trivial⟩ ?_
 conv=>whnf
 refine⟨rfl,?_⟩
 rintro i ⟨hi,hall⟩
 conv=>whnf
 refine⟨fun h5=>?_,fun h5=>?_⟩
 ·have hi':i<(allNames p).length:=by have:(i:Int)<((allNames p).length:Int):=of_decide_eq_true h5; omega
  conv=>whnf
  refine .mk (by simp only[Rw.rng] at *; omega) ?_
  conv=>whnf
  refine ah.pure (S.jA ((allNames p).getD i [])) rfl ?_
  conv=>whnf
  repeat(refine VC.mk (by first|exact id|exact fun h=>⟨h,h⟩|(intro h; (repeat' apply And.intro)<;>first|exact h|omega|(simp only[Rw.lM]; omega)|(simp only[Rw.rng]; omega))) ?_; conv=>whnf)
  refine ah.fG (fun _=>S.qp ((allNames p).take i) ((allNames p).getD i []) _ (by rw[List.length_take]; omega)) rfl ?_
  conv=>whnf
  refine .mk (by intro h; rw[h]; rfl) ?_
  conv=>whnf
  refine⟨fun h6=>?_,fun h6=>?_⟩
  ·conv=>whnf
   refine ak.int ?_
   rw[dH,h1,h2,h3,h4,show zh p=2 by rw[zh,xB.2 ⟨i,hi',h6⟩]; rfl]; rfl
  ·conv=>whnf
   refine .mk (by simp only[okI] at *; omega) ?_
   conv=>whnf
   refine⟨i+1,⟨by omega,?_⟩,by omega,⟨⟨_,rfl,rfl⟩,trivial⟩,?_,rfl⟩
   ·rw[List.range_succ,List.any_append,hall]
    simp only[List.any_cons,List.any_nil,Bool.or_false,Bool.false_or]; exact h6
   ·repeat' (first|exact trivial|exact⟨_,rfl,rfl⟩|constructor)
 have hi':(allNames p).length<=i:=by have: ¬ ((i:Int)<((allNames p).length:Int)):=of_decide_eq_false h5; omega
 have e:i=(allNames p).length:=Nat.le_antisymm hi hi'
 subst e
 have h5:zh p=0:=by rw[zh,hall]; rfl
 clear hi hall hi' hlen
 conv=>whnf
 repeat(refine VC.mk (by first|exact id|(intro h; rw[h]; rfl)|(intro h; simp[h]; done)|(intro h; simp_all; done)) ?_; conv=>whnf)
 refine⟨fun h6=>?_,fun h6=>?_⟩
 ·conv=>whnf
  exact ak.int (by rw[dH,h1,h2,h3,h4,h5,show QD p=true from h6]; rfl)
 replace h6:QD p=false:=h6
 conv=>whnf
 refine aF.same [1] (fun i:Nat=>[(5,.int i)]) (fun i=>i<=p.bZ.length/\(p.bZ.take i).any (fun l=> !(Qw l))=false) (fun i=>p.bZ.length-i) 0 rfl (by decide) rfl (fun _=>rfl) ⟨by omega,by simp⟩ ⟨⟨_,rfl,rfl⟩,trivial⟩ ?_
 conv=>whnf
 refine⟨rfl,?_⟩
 rintro i ⟨hi,hall⟩
 conv=>whnf
 refine⟨fun h7=>?_,fun h7=>?_⟩
 ·have hi':i<p.bZ.length:=by simpa using h7
  conv=>whnf
  refine .mk (by simp only[Rw.rng] at *; omega) ?_
  conv=>whnf
  refine ah.pure (S.zf (p.bZ.getD i default)) rfl ?_
  conv=>whnf
  refine⟨fun h8=>?_,fun h8=>?_⟩
  ·conv=>whnf
   exact ak.int (by rw[dH,h1,h2,h3,h4,h5,h6,fQ (d:=default) hi' h8]; rfl)
  ·conv=>whnf
   refine .mk (by simp only[okI] at *; omega) ?_
   conv=>whnf
   refine⟨i+1,⟨by omega,?_⟩,by omega,⟨⟨_,rfl,rfl⟩,trivial⟩,?_,rfl⟩
   ·rw[jl (d:=default) hi' hall]; exact h8
   ·repeat' (first|exact trivial|exact⟨_,rfl,rfl⟩|constructor)
 have hi':p.bZ.length<=i:=by simpa using h7
 rw[List.take_of_length_le hi'] at hall
 clear hi hi' h7
 conv=>whnf
 refine ah.pure (S.iL p.initial p.states.length false (by omega) ⟨by omega,by omega⟩) rfl ?_
 conv=>whnf
 refine⟨fun h7=>?_,fun h7=>?_⟩
 ·replace h7:=J7 h7
  have:xF p=dO p.initial p.states.length:=fN h7
  conv=>whnf
  exact ak.int (by rw[dH,h1,h2,h3,h4,h5,h6,hall,this,show(dO p.initial p.states.length !=0)=true by simpa using h7]; rfl)
 replace h7:=yF h7
 conv=>whnf
 refine⟨fun h8=>?_,fun h8=>?_⟩
 ·replace h8:((p.initial.length:Int)==0)=true:=h8
  have:xF p=1:=by rw[xF,h7,h8]; rfl
  conv=>whnf
  exact ak.int (by rw[dH,h1,h2,h3,h4,h5,h6,hall,this]; rfl)
 replace h8:((p.initial.length:Int)==0)=false:=h8
 conv=>whnf
 refine ah.pure (S.iL p.leader p.states.length false (by omega) ⟨by omega,by omega⟩) rfl ?_
 conv=>whnf
 refine⟨fun h9=>?_,fun h9=>?_⟩
 ·replace h9:=J7 h9
  have:xF p=dO p.leader p.states.length:=by rw[xF,h7,h8]; exact fN h9
  conv=>whnf
  exact ak.int (by rw[dH,h1,h2,h3,h4,h5,h6,hall,this,show(dO p.leader p.states.length !=0)=true by simpa using h9]; rfl)
 replace h9:=yF h9
 have h10:xF p=0:=by rw[xF,h7,h8,h9]; rfl
 conv=>whnf
 refine aF.same [1] (fun i:Nat=>[(8,.int i)]) (fun i=>i<=p.rules.length/\CP p=aT (((List.range p.rules.length).drop i).map (gK p))) (fun i=>p.rules.length-i) 0 rfl (by decide) rfl (fun _=>rfl) ⟨by omega,by simp[CP]⟩ ⟨⟨_,rfl,rfl⟩,trivial⟩ ?_
 conv=>whnf
 refine⟨rfl,?_⟩
 rintro i ⟨hi,hr⟩
 conv=>whnf
 refine⟨fun h11=>?_,fun h11=>?_⟩
 ·have hi':i<p.rules.length:=by simpa using h11
  rw[JQ hi'] at hr
  simp only[aT] at hr
  conv=>whnf
  refine ah.pure (S.Xj p i hi' hp) rfl ?_
  conv=>whnf
  refine⟨fun h12=>?_,fun h12=>?_⟩
  ·conv=>whnf
   have XJ:gK p i≠0:=J7 h12
   rw[if_neg XJ] at hr
   exact ak.int (by rw[dH,h1,h2,h3,h4,h5,h6,hall,h10,hr,show(gK p i !=0)=true from h12]; rfl)
  ·conv=>whnf
   refine .mk (by simp only[okI] at *; omega) ?_
   conv=>whnf
   have XJ:gK p i=0:=yF h12
   rw[if_pos XJ] at hr
   refine⟨i+1,⟨by omega,hr⟩,by omega,⟨⟨_,rfl,rfl⟩,trivial⟩,?_,rfl⟩
   repeat' (first|exact trivial|exact⟨_,rfl,rfl⟩|constructor)
 have hi':p.rules.length<=i:=by simpa using h11
 rw[List.drop_eq_nil_of_le (by simpa using hi')] at hr
 conv=>whnf
 refine ah.pure (S.rF p hp) rfl ?_
 conv=>whnf
 refine⟨fun h12=>?_,fun h12=>?_⟩
 ·conv=>whnf
  exact ak.int (by rw[dH,h1,h2,h3,h4,h5,h6,hall,h10,hr,show decide (((yB p.rules).length:Int)>3)=true from h12]; rfl)
 ·conv=>whnf
  exact ak.int (by rw[dH,h1,h2,h3,h4,h5,h6,hall,h10,hr,show decide (((yB p.rules).length:Int)>3)=false from h12]; rfl)
def QE(p:aX)(i:Nat):V:=.agg [.bool (((p.topology==1)&&((p.values.length:Int)==0))&&(p.rules.take i).foldl QF true),.bool (uh p&& !((p.rules.take i).foldl Xk false)),.bool ((p.topology==2)||(p.topology==3)),.bool (p.topology==4),.bool (uh p&&decide ((p.states.length:Int)<=4))]
def badR(r:Rule):Bool:=r.kind !=1||decide (r.fr>=r.to)||decide ((r.ex.length:Int)>0)||decide ((r.all.length:Int)>0)
theorem abq{acc:Bool}{r:Rule}(h:badR r=true):QF acc r=false:=by
 simp only[badR,Bool.or_eq_true,bne_iff_ne,decide_eq_true_eq] at h
 simp only[QF]
 rw[Bool.eq_false_iff]; intro q
 simp only[Bool.and_eq_true,beq_iff_eq,decide_eq_true_eq] at q
 omega
theorem adA{acc:Bool}{r:Rule}(h:badR r=false):QF acc r=acc:=by
 simp only[badR,Bool.or_eq_false_iff,bne_eq_false_iff_eq,decide_eq_false_iff_not] at h
 obtain⟨⟨⟨a,b⟩,c⟩,d⟩:=h
 simp only[QF]
 rw[show(r.kind==1)=true from beq_iff_eq.2 a,decide_eq_true (by omega),show((r.ex.length:Int)==0)=true from beq_iff_eq.2 (by omega),show((r.all.length:Int)==0)=true from beq_iff_eq.2 (by omega)]
 simp
theorem afh(p:aX):QE p 0= .agg [.bool ((p.topology==1)&&((p.values.length:Int)==0)),.bool (uh p),.bool ((p.topology==2)||(p.topology==3)),.bool (p.topology==4),.bool (uh p&&decide ((p.states.length:Int)<=4))]:=by
 simp[QE]
theorem EO(p:aX){i:Nat}(hi:i<p.rules.length):QE p (i+1) =
  .agg [.bool (bif badR (p.rules.getD i default) then false else((p.topology==1)&&((p.values.length:Int)==0))&&(p.rules.take i).foldl QF true),
   .bool (bif decide (((p.rules.getD i default).all.length:Int)>0) then false else uh p&& !((p.rules.take i).foldl Xk false)),.bool ((p.topology==2)||(p.topology==3)),.bool (p.topology==4),.bool (uh p&&decide ((p.states.length:Int)<=4))]:=by
 simp only[QE,Az (d:=default) hi]
 cases hb:badR (p.rules.getD i default) with
 |true =>
  rw[abq hb,Xk]
  cases decide (((p.rules.getD i default).all.length:Int)>0)<;>simp
 |false =>
  rw[adA hb,Xk]
  cases decide (((p.rules.getD i default).all.length:Int)>0)<;>simp
theorem S.qN(p:aX)(hp:dn p):aj Tryz.prog 86 [.dat (.bW p)] (FZ p):=by
 have g1:=hp.states; have g2:=hp.messages; have g3:=hp.values; have g4:=hp.bZ; have g7:=hp.rules
 refine aj.of Bd.qN (by simp) rfl rfl ?_
 conv=>whnf
 refine ah.pure (S.oz p hp) rfl ?_
 conv=>whnf
 refine⟨fun h1=>?_,fun h1=>?_⟩
 ·conv=>whnf
  refine ak.eqv ?_
  rw[FZ,h1]; rfl
 have h1':dH p=0:=yF h1
 conv=>whnf
 repeat(refine VC.mk (by first|exact id|(intro h; rw[h]; rfl)) ?_; conv=>whnf)
 refine aF.objs 100 [1,2,7] (fun i:Nat=>[(8,.int i)]) (fun i=>[(0,.box 27 11 (.dat (.bW p))),(1,.box 122 6 (aeH OT)),(58,.box 122 6 (QE p i))]) (fun i=>i<=p.rules.length) (fun i=>p.rules.length-i) 0 [0,1,58] rfl (by decide) (fun _=>rfl) (Nat.zero_le _) ?_ ?_ ?_
 ·exact⟨⟨_,rfl,.eq rfl⟩,trivial⟩
 ·refine⟨⟨rfl,nofun,rfl,rfl,rfl,_,rfl,rfl,rfl,bn.of_eq rfl⟩,⟨rfl,nofun,rfl,rfl,rfl,_,rfl,rfl,rfl,bn.of_eq rfl⟩,⟨rfl,nofun,rfl,rfl,rfl,_,rfl,rfl,rfl,bn.of_eq ?_⟩,trivial⟩
  rw[afh]; rfl
 conv=>whnf
 refine⟨⟨⟨_,rfl,.eq rfl⟩,⟨_,rfl,.eq rfl⟩,⟨_,rfl,.eq rfl⟩,trivial⟩,rfl,?_⟩
 rintro i hi
 have g8:=hp.rule i
 have g9:=g8.ex; have g10:=g8.all
 conv=>whnf
 refine⟨fun h3=>?_,fun h3=>?_⟩
 ·have hi':i<p.rules.length:=by simpa using h3
  conv=>whnf
  repeat(refine VC.mk (by first|exact id|exact fun h=>⟨h,h⟩|(intro h; rw[h]; rfl)|(simp only[Rw.rng] at *; omega)) ?_; conv=>whnf)
  refine⟨fun h4=>?_,fun h4=>?_⟩
  ·replace h4:badR (p.rules.getD i default)=true:=h4
   conv=>whnf
   refine⟨fun h5=>?_,fun h5=>?_⟩
   ·replace h5:decide (((p.rules.getD i default).all.length:Int)>0)=true:=h5
    conv=>whnf
    refine .mk (by simp only[okI] at *; omega) ?_
    conv=>whnf
    refine⟨i+1,[0,1,58],by omega,by omega,⟨⟨_,rfl,.eq rfl⟩,trivial⟩,⟨⟨_,rfl,.eq rfl⟩,⟨_,rfl,.eq rfl⟩,⟨_,rfl,.eq rfl⟩,trivial⟩,⟨rfl,nofun,rfl,rfl,rfl,_,rfl,rfl,rfl,bn.of_eq rfl⟩,⟨rfl,nofun,rfl,rfl,rfl,_,rfl,rfl,rfl,bn.of_eq rfl⟩,⟨rfl,nofun,rfl,rfl,rfl,_,rfl,rfl,rfl,bn.of_eq ?_⟩,trivial⟩
    rw[EO p hi',h4,h5]; rfl
   ·replace h5:decide (((p.rules.getD i default).all.length:Int)>0)=false:=h5
    conv=>whnf
    refine .mk (by simp only[okI] at *; omega) ?_
    conv=>whnf
    refine⟨i+1,[0,1,58],by omega,by omega,⟨⟨_,rfl,.eq rfl⟩,trivial⟩,⟨⟨_,rfl,.eq rfl⟩,⟨_,rfl,.eq rfl⟩,⟨_,rfl,.eq rfl⟩,trivial⟩,⟨rfl,nofun,rfl,rfl,rfl,_,rfl,rfl,rfl,bn.of_eq rfl⟩,⟨rfl,nofun,rfl,rfl,rfl,_,rfl,rfl,rfl,bn.of_eq rfl⟩,⟨rfl,nofun,rfl,rfl,rfl,_,rfl,rfl,rfl,bn.of_eq ?_⟩,trivial⟩
    rw[EO p hi',h4,h5]; rfl
  ·replace h4:badR (p.rules.getD i default)=false:=h4
   conv=>whnf
   refine⟨fun h5=>?_,fun h5=>?_⟩
   ·replace h5:decide (((p.rules.getD i default).all.length:Int)>0)=true:=h5
    conv=>whnf
    refine .mk (by simp only[okI] at *; omega) ?_
    conv=>whnf
    refine⟨i+1,[0,1,58],by omega,by omega,⟨⟨_,rfl,.eq rfl⟩,trivial⟩,⟨⟨_,rfl,.eq rfl⟩,⟨_,rfl,.eq rfl⟩,⟨_,rfl,.eq rfl⟩,trivial⟩,⟨rfl,nofun,rfl,rfl,rfl,_,rfl,rfl,rfl,bn.of_eq rfl⟩,⟨rfl,nofun,rfl,rfl,rfl,_,rfl,rfl,rfl,bn.of_eq rfl⟩,⟨rfl,nofun,rfl,rfl,rfl,_,rfl,rfl,rfl,bn.of_eq ?_⟩,trivial⟩
    rw[EO p hi',h4,h5]; rfl
   ·replace h5:decide (((p.rules.getD i default).all.length:Int)>0)=false:=h5
    conv=>whnf
    refine .mk (by simp only[okI] at *; omega) ?_
    conv=>whnf
    refine⟨i+1,[0,1,58],by omega,by omega,⟨⟨_,rfl,.eq rfl⟩,trivial⟩,⟨⟨_,rfl,.eq rfl⟩,⟨_,rfl,.eq rfl⟩,⟨_,rfl,.eq rfl⟩,trivial⟩,⟨rfl,nofun,rfl,rfl,rfl,_,rfl,rfl,rfl,bn.of_eq rfl⟩,⟨rfl,nofun,rfl,rfl,rfl,_,rfl,rfl,rfl,bn.of_eq rfl⟩,⟨rfl,nofun,rfl,rfl,rfl,_,rfl,rfl,rfl,bn.of_eq ?_⟩,trivial⟩
    rw[EO p hi',h4,h5]; rfl
 have hi':p.rules.length<=i:=by simpa using h3
 have e:i=p.rules.length:=Nat.le_antisymm hi hi'
 subst e
 conv=>whnf
 refine ak.eqv ?_
 rw[FZ,h1',kG]
 simp only[List.take_length]
 rfl
theorem U1{x:Int}:(decide (x<0)||decide (1048576<x))= !(J3 x):=by
 unfold J3; rw[Bool.eq_iff_iff]; simp
theorem S.xM(e:Elem)(hl:e.counts.length<2^40):aj Tryz.prog 74 [.dat (.elem e)] (.int (nH e)):=by
 refine aj.of Bd.xM (by simp) rfl rfl ?_
 conv=>whnf
 refine⟨fun h1=>?_,fun h1=>?_⟩
 ·have h:6<e.counts.length:=by
   have:(6:Int)<e.counts.length:=of_decide_eq_true h1
   omega
  conv=>whnf
  exact ak.int (by rw[nH,if_pos h])
 have h: ¬ 6<e.counts.length:=by
  have: ¬ (6:Int)<e.counts.length:=of_decide_eq_false h1
  omega
 conv=>whnf
 refine aF.same [1] (fun i:Nat=>[(4,.int i),(3,.int (e.counts.take i).sum)]) (fun i=>i<=e.counts.length/\(e.counts.take i).all J3=true) (fun i=>e.counts.length-i) 0 rfl (by decide) rfl (fun _=>rfl) ⟨by omega,by simp⟩ ⟨⟨_,rfl,rfl⟩,⟨_,rfl,rfl⟩,trivial⟩ ?_
 conv=>whnf
 refine⟨rfl,?_⟩
 rintro i ⟨hi,hall⟩
 have hb:=Ba hall
 have hb':((e.counts.take i).length:Int)<=6:=by simp; omega
 conv=>whnf
 refine⟨fun h3=>?_,fun h3=>?_⟩
 ·have hi':i<e.counts.length:=by simpa using h3
  have hs:=Pv hi'
  conv=>whnf
  repeat(refine VC.mk (by first|exact id|(intro h; rw[h]; rfl)|(intro h; (repeat' apply And.intro)<;>first|exact h|omega|(simp only[Rw.lM]; omega)|(simp only[Rw.rng]; omega))|(simp only[Rw.rng] at *; omega)) ?_; conv=>whnf)
  refine⟨fun h4=>?_,fun h4=>?_⟩
  ·conv=>whnf
   replace h4:(decide (e.counts.getD i 0<0)||decide (1048576<e.counts.getD i 0))=true:=h4
   rw[U1] at h4
   exact ak.int (by rw[nH,if_neg h,nN (d:=0) hi' (by simpa using h4)]; rfl)
  ·replace h4:(decide (e.counts.getD i 0<0)||decide (1048576<e.counts.getD i 0))=false:=h4
   rw[U1] at h4
   have h4':J3 (e.counts.getD i 0)=true:=by simpa using h4
   have abS:(e.counts.take (i+1)).all J3=true:=by rw[mO (d:=0) hi' hall]; exact h4'
   have hc:=Ba abS
   have hc':((e.counts.take (i+1)).length:Int)<=6:=by simp; omega
   conv=>whnf
   repeat(refine VC.mk (by first|(simp only[okI,Int.toNat_natCast] at *; rw[<- hs]; omega)|(simp only[okI,Rw.rng] at *; omega)) ?_; conv=>whnf)
   refine⟨i+1,⟨by omega,abS⟩,by omega,⟨⟨_,rfl,rfl⟩,⟨_,rfl,?_⟩,trivial⟩,?_,rfl⟩
   ·rw[hs]; simp[V.aI,su]
   ·repeat' (first|exact trivial|exact⟨_,rfl,rfl⟩|constructor)
 ·have hi':e.counts.length<=i:=by simpa using h3
  rw[List.take_of_length_le hi'] at hall
  rw[List.take_of_length_le hi']
  conv=>whnf
  exact ak.int (by rw[nH,if_neg h,if_pos hall])
end Go.Proofs.YtifbibbicplneaaGreatDoor
