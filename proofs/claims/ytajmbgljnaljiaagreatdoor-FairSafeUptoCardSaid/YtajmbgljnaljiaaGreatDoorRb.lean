/-
 The two programs' rules for a protocol's rules say the same. No condition.
-/
import Derived.Test.YtajmbgljnaljiaaGreatDoorRa
import Derived.Test.YtajmbgljnaljiaaGreatDoorLg
namespace Go.Proofs.YtajmbgljnaljiaaGreatDoor
open Go.Ab Go.Proofs
theorem vF{x n:Int}:(!(iF x 0 (n-1)))=oM x n:=by rw[nX,Bool.not_not]
theorem vals_eq(p:aO)(r:Rule):zC p r=((decide (r.read< -1)||decide (r.read>=p.values.length))||(decide (r.write< -1)||decide (r.write>=p.values.length))):=by
 simp only[zC,vF,oM]
 rw[Bool.eq_iff_iff]; simp; omega
theorem aax(a b:Bool)(v:Int)(r:List Int)(h:v≠0):bJ (fE (a||b) v::r)=bJ (fE a v::fE b v::r):=by
 cases a<;>cases b<;>simp[fE,bJ,h]
theorem Ov(p:aO)(l:List zG)(r:List Int):bJ (wS p l::r)=bJ (jY p l::fE (decide ((l.length:Int)>2)) 4::r):=by
 by_cases h:jY p l=0
 ·rw[show wS p l=fE (decide ((l.length:Int)>2)) 4 from if_pos h,h]; rfl
 ·rw[show wS p l=jY p l from if_neg h,fN h,fN h]
theorem MP{c d:Bool}:(bif c then true else d)=(c||d):=by cases c<;>rfl
theorem len_nil{α:Type}{l:List α}(h:decide ((l.length:Int)>0)=false):l=[]:=by
 cases l with
 |nil=>rfl
 |cons a r=>simp at h
theorem Lh{r:Rule}{t:Int}(h:kE r t=false) :
  (r.kind≠1->r.guards=[]/\r.ex=[]/\r.all=[]/\r.send=[])/\(r.kind≠1->r.kind≠2->r.kind≠3->r.read= -1/\r.write= -1) /\
  (r.kind≠3->r.response=[])/\(r.kind≠5->r.direction=0)/\(r.kind≠4->r.pos=0/\r.left=[]/\r.right=[])/\(¬(r.kind=4/\t=4)->r.parent=[]):=by
 simp only[kE,MP,Bool.or_eq_false_iff] at h
 obtain⟨h1,h2,h3,⟨h4,h5⟩,h6,h7⟩:=h
 refine⟨fun k=>?_,fun k1 k2 k3=>?_,fun k=>?_,fun k=>?_,fun k=>?_,fun k=>?_⟩
 ·simp only[beq_eq_false_iff_ne.2 k,Bool.not_false,Bool.true_and,Bool.or_eq_false_iff] at h1
  exact⟨len_nil h1.1.1.1,len_nil h1.1.1.2,len_nil h1.1.2,len_nil h1.2⟩
 ·simp only[beq_eq_false_iff_ne.2 k1,beq_eq_false_iff_ne.2 k2,beq_eq_false_iff_ne.2 k3,Bool.not_false,Bool.true_and,Bool.or_eq_false_iff] at h2
  exact⟨RS h2.1,RS h2.2⟩
 ·simp only[beq_eq_false_iff_ne.2 k,Bool.not_false,Bool.true_and] at h4
  exact len_nil h4
 ·simp only[beq_eq_false_iff_ne.2 k,Bool.not_false,Bool.true_and] at h5
  exact RS h5
 ·simp only[beq_eq_false_iff_ne.2 k,Bool.not_false,Bool.true_and,Bool.or_eq_false_iff] at h6
  exact⟨RS h6.1.1,len_nil h6.1.2,len_nil h6.2⟩
 ·refine len_nil ?_
  rw[Bool.and_eq_false_iff] at h7
  rcases h7 with h7|h7
  ·exact h7
  ·simp only[Bool.not_eq_false',Bool.and_eq_true,beq_iff_eq] at h7
   exact absurd h7 k
theorem kind_eq{r:Rule}{t:Int}:((!(iF r.kind 1 5)||(decide (r.kind<=3) !=(t==1)))||kE r t)=(!(sQ r.kind t)||kN r t):=by
 by_cases hk:1<=r.kind/\r.kind<=5
 ·rw[uV hk]
  congr 1
  have hk':r.kind=1\/r.kind=2\/r.kind=3\/r.kind=4\/r.kind=5:=by omega
  rcases hk' with e|e|e|e|e<;>rw[e]<;>cases ht:(t==1)<;>simp[iF,sQ,ht]
 ·have h1:iF r.kind 1 5=false:=by rw[iF,Bool.and_eq_false_iff]; simp; omega
  have h2:sQ r.kind t=false:=by
   have:r.kind≠1/\r.kind≠2/\r.kind≠3/\r.kind≠4/\r.kind≠5:=by omega
   obtain⟨a,b,c,d,e⟩:=this
   simp[sQ,a,b,c,d,e]
  rw[h1,h2]; rfl
theorem G6(p:aO)(r:Rule):(vY p r !=0)=(oM r.fr p.states.length||oM r.to p.states.length):=by
 simp only[vY,dG]
 cases oM r.fr p.states.length<;>cases oM r.to p.states.length<;>rfl
theorem aeS(p:aO)(r:Rule)(h:(vY p r !=0)=true):vY p r=5:=by
 rw[G6] at h
 simp only[vY,dG]
 revert h
 cases oM r.fr p.states.length<;>cases oM r.to p.states.length<;>intro h<;>first|rfl|cases h
theorem Az(n:Int):jw [] n=0:=rfl
theorem Xt(x:Int):bJ [x,0,0,0,0,0,0]=bJ [x]:=by
 simp only[bJ]; simp
theorem Cc{a:Int}{X Y:List Int}(h:bJ X=bJ Y):bJ (a::X)=bJ (a::Y):=by simp only[bJ,h]
theorem Uc(x:Int):bJ [x,0,0,0,0,0,0,0]=bJ [x]:=by
 simp only[bJ]; simp
theorem Ud(x:Int):bJ [x,0,0]=bJ [x]:=by
 simp only[bJ]; simp
theorem JR(p:aO)(r:Rule):bJ [fE (zC p r) 5,0,0,0,0,0,0,0]=bJ [jQ p r.read,jQ p r.write]:=by
 rw[vals_eq,aax _ _ _ _ (by decide)]
 exact Cc (Uc _)
theorem aay(p:aO)(i:Nat):yK p i=ig p i:=by
 simp only[yK,ig,qW,oQ]
 generalize p.rules.getD i default=r
 cases hv:validName r.name with
 |false=>rfl
 |true =>
 cases ha:(p.rules.take i).any (fun x=>x.name==r.name) with
 |true=>rfl
 |false =>
 simp only[GH,kind_eq,Bool.not_true,Bool.or_false,cond_false]
 cases hk:(!(sQ r.kind p.topology)||kN r p.topology) with
 |true=>rfl
 |false =>
 have hk2:=hk
 rw[<- kind_eq,Bool.or_eq_false_iff,Bool.or_eq_false_iff,Bool.not_eq_false'] at hk2
 obtain⟨⟨k1,_⟩,k2⟩:=hk2
 obtain⟨u1,u2,u3,u4,u5,u6⟩:=Lh k2
 have hk':r.kind=1\/r.kind=2\/r.kind=3\/r.kind=4\/r.kind=5:=by
  simp only[iF,Bool.and_eq_true,decide_eq_true_eq] at k1; omega
 cases he:(vY p r !=0) with
 |true =>
  rw[aeS p r he]
  rw[G6] at he
  simp only[Gz,vF,he]; rfl
 |false =>
 rw[G6] at he
 simp only[Gz,vF,he,Bool.false_or,cond_false]
 rcases hk' with e|e|e|e|e
 ·have a5:=u5 (by omega)
  have m4:Dp p r=false:=by simp[Dp,e]
  have d1:Dq p r=false:=by simp[Dq,e]
  have d2:Dt p r=false:=by simp[Dt,e]
  simp only[iI,m4,d1,d2,a5.2.1,a5.2.2,u6 (by omega),e,Az,Int.reduceBEq,Bool.or_self,Bool.false_and,cond_false,cond_true]
  rw[Ov]
  refine Cc (Cc (Cc (Cc ?_)))
  rw[vals_eq,aax _ _ _ _ (by decide)]
  refine Cc (Cc ?_)
  exact Xt _
 ·obtain⟨g1,g2,g3,g4⟩:=u1 (by omega)
  have a5:=u5 (by omega)
  have m4:Dp p r=false:=by simp[Dp,e]
  have d1:Dq p r=false:=by simp[Dq,e]
  have d2:Dt p r=false:=by simp[Dt,e]
  simp only[iI,m4,d1,d2,g1,g2,g3,g4,a5.2.1,a5.2.2,u6 (by omega),e,Az,Int.reduceBEq,Bool.or_false,Bool.true_and,cond_false,cond_true,dG]
  cases oM r.gB p.states.length with
  |true=>rfl
  |false =>
   cases oM r.AB p.states.length with
   |true=>rfl
   |false=>exact JR p r
 ·obtain⟨g1,g2,g3,g4⟩:=u1 (by omega)
  have a5:=u5 (by omega)
  have m4:Dp p r=false:=by simp[Dp,e]
  have d1:Dq p r=false:=by simp[Dq,e]
  have d2:Dt p r=false:=by simp[Dt,e]
  simp only[iI,m4,d1,d2,g1,g2,g3,g4,a5.2.1,a5.2.2,u6 (by omega),e,Az,Int.reduceBEq,Bool.or_self,Bool.false_and,cond_false,cond_true,D5]
  cases ((r.response.length:Int) !=p.states.length) with
  |true=>rfl
  |false =>
   simp only[cond_false]
   by_cases hz:pI r.response p.states.length=0
   ·rw[hz]; exact JR p r
   ·rw[show(pI r.response p.states.length !=0)=true by simpa using hz,fN hz]; rfl
 ·obtain⟨g1,g2,g3,g4⟩:=u1 (by omega)
  obtain⟨v1,v2⟩:=u2 (by omega) (by omega) (by omega)
  have m4:Dp p r=aaz p r:=by
   simp only[Dp,aaz,e,nU]; rfl
  have d1:Dq p r=false:=by simp[Dq,e]
  have d2:Dt p r=false:=by simp[Dt,e]
  have vv:zC p r=false:=by simp[zC,v1,v2]
  simp only[iI,m4,d1,d2,vv,g1,g2,g3,g4,e,Az,Int.reduceBEq,Bool.or_self,Bool.false_and,cond_false,cond_true]
  exact Cc (Cc (Cc (Ud _)))
 ·obtain⟨g1,g2,g3,g4⟩:=u1 (by omega)
  obtain⟨v1,v2⟩:=u2 (by omega) (by omega) (by omega)
  have a5:=u5 (by omega)
  have m4:Dp p r=false:=by simp[Dp,e]
  have vv:zC p r=false:=by simp[zC,v1,v2]
  have d1:Dq p r=((p.topology==4)&&(decide (r.direction<3)||decide (r.direction>4))):=by
   simp only[Dq,e,nU]; rfl
  have d2:Dt p r=(!(p.topology==4)&&(decide (r.direction<1)||decide (r.direction>2))):=by
   simp only[Dt,e,nU]; rfl
  simp only[iI,m4,d1,d2,vv,g1,g2,g3,g4,a5.2.1,a5.2.2,u6 (by omega),e,Az,Int.reduceBEq,Bool.or_true,Bool.true_and,cond_false,dG]
  cases oM r.gB p.states.length with
  |true=>cases (p.topology==4)<;>rfl
  |false =>
   cases oM r.AB p.states.length with
   |true=>cases (p.topology==4)<;>rfl
   |false =>
    cases (p.topology==4) with
    |true=>cases (decide (r.direction<3)||decide (r.direction>4))<;>rfl
    |false=>cases (decide (r.direction<1)||decide (r.direction>2))<;>rfl
theorem aaA{p:aO}:(!(iF p.topology 1 4)|| !(iF p.fault 0 3))=tZ p:=by
 simp only[nU,tZ,Bool.or_assoc]
theorem S.Xu(p:aO)(i:Nat)(hi:i<p.rules.length)(hp:fG p):aj Tryz.prog 143 [.dat (.kS p),.int i] (.int (ig p i)):=by
 rw[<- aay]; exact S.vX p i hi hp
theorem agd{h:Hz}{j:Nat}{Z:Nat->Prop}{l:List Str}(hz:Z j)(q:h.get j=some (.row 9 0 (.strs l) [])):T.sub Z h.ay (V.row 0 false (.strs l)).aG (V.own j).aG:=by
 show T.sub Z h.ay (.sl 0 false (l.map eS)) (.own j)
 simp only[T.sub]
 refine⟨trivial,hz,?_,by decide,9,?_⟩
 ·rw[fU]; intro t ht; obtain⟨x,_,rfl⟩:=List.mem_map.1 ht; rfl
 ·have:=aZ q
  rw[this]; simp[OV.aF,Rw.bn,V.bn]
theorem S.kJ(p:aO)(hp:fG p):aj Tryz.prog 111 [.dat (.kS p)] (.int (dH p)):=by
 have g1:=hp.states; have g2:=hp.messages; have g3:=hp.values; have g4:=hp.dD; have g5:=hp.initial; have g6:=hp.leader; have g7:=hp.rules
 refine aj.of Bd.kJ (by simp) rfl rfl ?_
 conv=>whnf
 refine ah.pure (S.iw p.name) rfl ?_
 conv=>whnf
 refine⟨fun h1=>?_,fun h1=>?_⟩
 ·conv=>whnf
  exact ak.int (by rw[dH,h1]; rfl)
 conv=>whnf
 refine ah.pure (S.aU p.topology 1 4) rfl ?_
 conv=>whnf
 repeat(refine VC.mk id ?_; conv=>whnf)
 refine ah.iD (fun _=>S.aU p.fault 0 3) rfl ?_
 conv=>whnf
 repeat(refine VC.mk (by first|exact id|(intro h; rw[h]; rfl)) ?_; conv=>whnf)
 refine⟨fun h2=>?_,fun h2=>?_⟩
 ·conv=>whnf
  rw[aaA] at h2
  exact ak.int (by rw[dH,h1,h2]; rfl)
 rw[aaA] at h2
 conv=>whnf
 refine⟨fun h3=>?_,fun h3=>?_⟩
 ·conv=>whnf
  exact ak.int (by rw[dH,h1,h2,show((p.states.length:Int)==0)=true from h3]; rfl)
 replace h3:((p.states.length:Int)==0)=false:=h3
 conv=>whnf
 repeat(refine VC.mk (by first|exact id|(intro h; rw[h]; rfl)) ?_; conv=>whnf)
 refine⟨fun h4=>?_,fun h4=>?_⟩
 ·conv=>whnf
  exact ak.int (by rw[dH,h1,h2,h3,show vC p=true from h4]; rfl)
 replace h4:vC p=false:=h4
 have h0:0<p.states.length:=by
  rcases Nat.eq_zero_or_pos p.states.length with e|e
  ·rw[e] at h3; exact absurd h3 (by decide)
  ·exact e
 have hlen:(allNames p).length<2^30:=by simp only[allNames,List.length_append]; omega
 conv=>whnf
 repeat(refine VC.mk (by simp only[nG,og,Rw.len,List.length_append]; omega) ?_; conv=>whnf)
 refine aI.fz 3 57 0 (.strs (allNames p)) rfl rfl (agd rfl rfl) ?_
 conv=>whnf
 refine aI.same [1,3] (fun i:Nat=>[(4,.int i)]) (fun i=>i<=(allNames p).length/\(List.range i).any (Ox (allNames p))=false) (fun i=>(allNames p).length-i) 0 rfl (by decide) rfl (fun _=>rfl) ⟨Nat.zero_le _,rfl⟩ ⟨⟨_,rfl,rfl⟩,trivial⟩ ?_
 conv=>whnf
 refine⟨rfl,?_⟩
 rintro i ⟨hi,hall⟩
 conv=>whnf
 refine⟨fun h5=>?_,fun h5=>?_⟩
 ·have hi':i<(allNames p).length:=by have:(i:Int)<((allNames p).length:Int):=of_decide_eq_true h5; omega
  conv=>whnf
  refine .mk (by simp only[Rw.rng] at *; omega) ?_
  conv=>whnf
  refine ah.pure (S.iw ((allNames p).getD i [])) rfl ?_
  conv=>whnf
  repeat(refine VC.mk (by first|exact id|exact fun h=>⟨h,h⟩|(intro h; (repeat' apply And.intro)<;>first|exact h|omega|(simp only[Rw.qp]; omega)|(simp only[Rw.rng]; omega))) ?_; conv=>whnf)
  refine ah.iD (fun _=>S.lI ((allNames p).take i) ((allNames p).getD i []) _ (by rw[List.length_take]; omega)) rfl ?_
  conv=>whnf
  refine .mk (by intro h; rw[h]; rfl) ?_
  conv=>whnf
  refine⟨fun h6=>?_,fun h6=>?_⟩
  ·conv=>whnf
   refine ak.int ?_
   rw[dH,h1,h2,h3,h4,show zu p=2 by rw[zu,nT.2 ⟨i,hi',h6⟩]; rfl]; rfl
  ·conv=>whnf
   refine .mk (by simp only[okI] at *; omega) ?_
   conv=>whnf
   refine⟨i+1,⟨by omega,?_⟩,by omega,⟨⟨_,rfl,rfl⟩,trivial⟩,?_,rfl⟩
   ·rw[List.range_succ,List.any_append,hall]
    simp only[List.any_cons,List.any_nil,Bool.or_false,Bool.false_or]; exact h6
   ·repeat' (first|exact trivial|exact⟨_,rfl,rfl⟩|constructor)
 have hi':(allNames p).length<=i:=by have: ¬ ((i:Int)<((allNames p).length:Int)):=of_decide_eq_false h5; omega
 have e:i=(allNames p).length:=Nat.le_antisymm hi hi'
 subst e
 have h5:zu p=0:=by rw[zu,hall]; rfl
 clear hi hall hi' hlen
 conv=>whnf
 repeat(refine VC.mk (by first|exact id|(intro h; rw[h]; rfl)|(intro h; simp[h]; done)|(intro h; simp_all; done)) ?_; conv=>whnf)
 refine⟨fun h6=>?_,fun h6=>?_⟩
 ·conv=>whnf
  exact ak.int (by rw[dH,h1,h2,h3,h4,h5,show QX p=true from h6]; rfl)
 replace h6:QX p=false:=h6
 conv=>whnf
 refine aI.same [1] (fun i:Nat=>[(5,.int i)]) (fun i=>i<=p.dD.length/\(p.dD.take i).any (fun l=> !(QN l))=false) (fun i=>p.dD.length-i) 0 rfl (by decide) rfl (fun _=>rfl) ⟨by omega,by simp⟩ ⟨⟨_,rfl,rfl⟩,trivial⟩ ?_
 conv=>whnf
 refine⟨rfl,?_⟩
 rintro i ⟨hi,hall⟩
 conv=>whnf
 refine⟨fun h7=>?_,fun h7=>?_⟩
 ·have hi':i<p.dD.length:=by simpa using h7
  conv=>whnf
  refine .mk (by simp only[Rw.rng] at *; omega) ?_
  conv=>whnf
  refine ah.pure (S.uD (p.dD.getD i default)) rfl ?_
  conv=>whnf
  refine⟨fun h8=>?_,fun h8=>?_⟩
  ·conv=>whnf
   exact ak.int (by rw[dH,h1,h2,h3,h4,h5,h6,gI (d:=default) hi' h8]; rfl)
  ·conv=>whnf
   refine .mk (by simp only[okI] at *; omega) ?_
   conv=>whnf
   refine⟨i+1,⟨by omega,?_⟩,by omega,⟨⟨_,rfl,rfl⟩,trivial⟩,?_,rfl⟩
   ·rw[jE (d:=default) hi' hall]; exact h8
   ·repeat' (first|exact trivial|exact⟨_,rfl,rfl⟩|constructor)
 have hi':p.dD.length<=i:=by simpa using h7
 rw[List.take_of_length_le hi'] at hall
 clear hi hi' h7
 conv=>whnf
 refine ah.pure (S.iG p.initial p.states.length false (by omega) ⟨by omega,by omega⟩) rfl ?_
 conv=>whnf
 refine⟨fun h7=>?_,fun h7=>?_⟩
 ·replace h7:=QW h7
  have:xM p=jw p.initial p.states.length:=fN h7
  conv=>whnf
  exact ak.int (by rw[dH,h1,h2,h3,h4,h5,h6,hall,this,show(jw p.initial p.states.length !=0)=true by simpa using h7]; rfl)
 replace h7:=IL h7
 conv=>whnf
 refine⟨fun h8=>?_,fun h8=>?_⟩
 ·replace h8:((p.initial.length:Int)==0)=true:=h8
  have:xM p=1:=by rw[xM,h7,h8]; rfl
  conv=>whnf
  exact ak.int (by rw[dH,h1,h2,h3,h4,h5,h6,hall,this]; rfl)
 replace h8:((p.initial.length:Int)==0)=false:=h8
 conv=>whnf
 refine ah.pure (S.iG p.leader p.states.length false (by omega) ⟨by omega,by omega⟩) rfl ?_
 conv=>whnf
 refine⟨fun h9=>?_,fun h9=>?_⟩
 ·replace h9:=QW h9
  have:xM p=jw p.leader p.states.length:=by rw[xM,h7,h8]; exact fN h9
  conv=>whnf
  exact ak.int (by rw[dH,h1,h2,h3,h4,h5,h6,hall,this,show(jw p.leader p.states.length !=0)=true by simpa using h9]; rfl)
 replace h9:=IL h9
 have h10:xM p=0:=by rw[xM,h7,h8,h9]; rfl
 conv=>whnf
 refine aI.same [1] (fun i:Nat=>[(8,.int i)]) (fun i=>i<=p.rules.length/\CO p=bJ (((List.range p.rules.length).drop i).map (ig p))) (fun i=>p.rules.length-i) 0 rfl (by decide) rfl (fun _=>rfl) ⟨by omega,by simp[CO]⟩ ⟨⟨_,rfl,rfl⟩,trivial⟩ ?_
 conv=>whnf
 refine⟨rfl,?_⟩
 rintro i ⟨hi,hr⟩
 conv=>whnf
 refine⟨fun h11=>?_,fun h11=>?_⟩
 ·have hi':i<p.rules.length:=by simpa using h11
  rw[JU hi'] at hr
  simp only[bJ] at hr
  conv=>whnf
  refine ah.pure (S.Xu p i hi' hp) rfl ?_
  conv=>whnf
  refine⟨fun h12=>?_,fun h12=>?_⟩
  ·conv=>whnf
   have Yu:ig p i≠0:=QW h12
   rw[if_neg Yu] at hr
   exact ak.int (by rw[dH,h1,h2,h3,h4,h5,h6,hall,h10,hr,show(ig p i !=0)=true from h12]; rfl)
  ·conv=>whnf
   refine .mk (by simp only[okI] at *; omega) ?_
   conv=>whnf
   have Yu:ig p i=0:=IL h12
   rw[if_pos Yu] at hr
   refine⟨i+1,⟨by omega,hr⟩,by omega,⟨⟨_,rfl,rfl⟩,trivial⟩,?_,rfl⟩
   repeat' (first|exact trivial|exact⟨_,rfl,rfl⟩|constructor)
 have hi':p.rules.length<=i:=by simpa using h11
 rw[List.drop_eq_nil_of_le (by simpa using hi')] at hr
 conv=>whnf
 refine ah.pure (S.lW p hp) rfl ?_
 conv=>whnf
 refine⟨fun h12=>?_,fun h12=>?_⟩
 ·conv=>whnf
  exact ak.int (by rw[dH,h1,h2,h3,h4,h5,h6,hall,h10,hr,show decide (((yH p.rules).length:Int)>3)=true from h12]; rfl)
 ·conv=>whnf
  exact ak.int (by rw[dH,h1,h2,h3,h4,h5,h6,hall,h10,hr,show decide (((yH p.rules).length:Int)>3)=false from h12]; rfl)
def QY(p:aO)(i:Nat):V:=.agg [.bool (((p.topology==1)&&((p.values.length:Int)==0))&&(p.rules.take i).foldl QZ true),.bool (rW p&& !((p.rules.take i).foldl Xv false)),.bool ((p.topology==2)||(p.topology==3)),.bool (p.topology==4),.bool (rW p&&decide ((p.states.length:Int)<=4))]
def badR(r:Rule):Bool:=r.kind !=1||decide (r.fr>=r.to)||decide ((r.ex.length:Int)>0)||decide ((r.all.length:Int)>0)
theorem acE{acc:Bool}{r:Rule}(h:badR r=true):QZ acc r=false:=by
 simp only[badR,Bool.or_eq_true,bne_iff_ne,decide_eq_true_eq] at h
 simp only[QZ]
 rw[Bool.eq_false_iff]; intro q
 simp only[Bool.and_eq_true,beq_iff_eq,decide_eq_true_eq] at q
 omega
theorem aeT{acc:Bool}{r:Rule}(h:badR r=false):QZ acc r=acc:=by
 simp only[badR,Bool.or_eq_false_iff,bne_eq_false_iff_eq,decide_eq_false_iff_not] at h
 obtain⟨⟨⟨a,b⟩,c⟩,d⟩:=h
 simp only[QZ]
 rw[show(r.kind==1)=true from beq_iff_eq.2 a,decide_eq_true (by omega),show((r.ex.length:Int)==0)=true from beq_iff_eq.2 (by omega),show((r.all.length:Int)==0)=true from beq_iff_eq.2 (by omega)]
 simp
theorem agZ(p:aO):QY p 0= .agg [.bool ((p.topology==1)&&((p.values.length:Int)==0)),.bool (rW p),.bool ((p.topology==2)||(p.topology==3)),.bool (p.topology==4),.bool (rW p&&decide ((p.states.length:Int)<=4))]:=by
 simp[QY]
theorem ER(p:aO){i:Nat}(hi:i<p.rules.length):QY p (i+1) =
  .agg [.bool (bif badR (p.rules.getD i default) then false else((p.topology==1)&&((p.values.length:Int)==0))&&(p.rules.take i).foldl QZ true),
   .bool (bif decide (((p.rules.getD i default).all.length:Int)>0) then false else rW p&& !((p.rules.take i).foldl Xv false)),.bool ((p.topology==2)||(p.topology==3)),.bool (p.topology==4),.bool (rW p&&decide ((p.states.length:Int)<=4))]:=by
 simp only[QY,Aw (d:=default) hi]
 cases hb:badR (p.rules.getD i default) with
 |true =>
  rw[acE hb,Xv]
  cases decide (((p.rules.getD i default).all.length:Int)>0)<;>simp
 |false =>
  rw[aeT hb,Xv]
  cases decide (((p.rules.getD i default).all.length:Int)>0)<;>simp
theorem S.lJ(p:aO)(hp:fG p):aj Tryz.prog 116 [.dat (.kS p)] (FY p):=by
 have g1:=hp.states; have g2:=hp.messages; have g3:=hp.values; have g4:=hp.dD; have g7:=hp.rules
 refine aj.of Bd.lJ (by simp) rfl rfl ?_
 conv=>whnf
 refine ah.pure (S.kJ p hp) rfl ?_
 conv=>whnf
 refine⟨fun h1=>?_,fun h1=>?_⟩
 ·conv=>whnf
  refine ak.eqv ?_
  rw[FY,h1]; rfl
 have h1':dH p=0:=IL h1
 conv=>whnf
 repeat(refine VC.mk (by first|exact id|(intro h; rw[h]; rfl)) ?_; conv=>whnf)
 refine aI.objs 100 [1,2,7] (fun i:Nat=>[(8,.int i)]) (fun i=>[(0,.box 27 11 (.dat (.kS p))),(1,.box 136 6 (agf XD)),(58,.box 136 6 (QY p i))]) (fun i=>i<=p.rules.length) (fun i=>p.rules.length-i) 0 [0,1,58] rfl (by decide) (fun _=>rfl) (Nat.zero_le _) ?_ ?_ ?_
 ·exact⟨⟨_,rfl,.eq rfl⟩,trivial⟩
 ·refine⟨⟨rfl,nofun,rfl,rfl,rfl,_,rfl,rfl,rfl,dN.of_eq rfl⟩,⟨rfl,nofun,rfl,rfl,rfl,_,rfl,rfl,rfl,dN.of_eq rfl⟩,⟨rfl,nofun,rfl,rfl,rfl,_,rfl,rfl,rfl,dN.of_eq ?_⟩,trivial⟩
  rw[agZ]; rfl
 conv=>whnf
 refine⟨⟨⟨_,rfl,.eq rfl⟩,⟨_,rfl,.eq rfl⟩,⟨_,rfl,.eq rfl⟩,trivial⟩,rfl,?_⟩
 rintro i hi
 have g8:=hp.rule i
 have g9:=g8.ex; have g10:=g8.all
 conv=>whnf
 refine⟨fun h3=>?_,fun h3=>?_⟩
 ·have hi':i<p.rules.length:=by simpa using h3
  conv=>whnf
  repeat(refine VC.mk (by first|exact id|exact fun h=>⟨h,h⟩|(intro h; rw[h]; rfl)|(simp only[Rw.rng] at *; omega)) ?_; conv=>whnf)
  refine⟨fun h4=>?_,fun h4=>?_⟩
  ·replace h4:badR (p.rules.getD i default)=true:=h4
   conv=>whnf
   refine⟨fun h5=>?_,fun h5=>?_⟩
   ·replace h5:decide (((p.rules.getD i default).all.length:Int)>0)=true:=h5
    conv=>whnf
    refine .mk (by simp only[okI] at *; omega) ?_
    conv=>whnf
    refine⟨i+1,[0,1,58],by omega,by omega,⟨⟨_,rfl,.eq rfl⟩,trivial⟩,⟨⟨_,rfl,.eq rfl⟩,⟨_,rfl,.eq rfl⟩,⟨_,rfl,.eq rfl⟩,trivial⟩,⟨rfl,nofun,rfl,rfl,rfl,_,rfl,rfl,rfl,dN.of_eq rfl⟩,⟨rfl,nofun,rfl,rfl,rfl,_,rfl,rfl,rfl,dN.of_eq rfl⟩,⟨rfl,nofun,rfl,rfl,rfl,_,rfl,rfl,rfl,dN.of_eq ?_⟩,trivial⟩
    rw[ER p hi',h4,h5]; rfl
   ·replace h5:decide (((p.rules.getD i default).all.length:Int)>0)=false:=h5
    conv=>whnf
    refine .mk (by simp only[okI] at *; omega) ?_
    conv=>whnf
    refine⟨i+1,[0,1,58],by omega,by omega,⟨⟨_,rfl,.eq rfl⟩,trivial⟩,⟨⟨_,rfl,.eq rfl⟩,⟨_,rfl,.eq rfl⟩,⟨_,rfl,.eq rfl⟩,trivial⟩,⟨rfl,nofun,rfl,rfl,rfl,_,rfl,rfl,rfl,dN.of_eq rfl⟩,⟨rfl,nofun,rfl,rfl,rfl,_,rfl,rfl,rfl,dN.of_eq rfl⟩,⟨rfl,nofun,rfl,rfl,rfl,_,rfl,rfl,rfl,dN.of_eq ?_⟩,trivial⟩
    rw[ER p hi',h4,h5]; rfl
  ·replace h4:badR (p.rules.getD i default)=false:=h4
   conv=>whnf
   refine⟨fun h5=>?_,fun h5=>?_⟩
   ·replace h5:decide (((p.rules.getD i default).all.length:Int)>0)=true:=h5
    conv=>whnf
    refine .mk (by simp only[okI] at *; omega) ?_
    conv=>whnf
    refine⟨i+1,[0,1,58],by omega,by omega,⟨⟨_,rfl,.eq rfl⟩,trivial⟩,⟨⟨_,rfl,.eq rfl⟩,⟨_,rfl,.eq rfl⟩,⟨_,rfl,.eq rfl⟩,trivial⟩,⟨rfl,nofun,rfl,rfl,rfl,_,rfl,rfl,rfl,dN.of_eq rfl⟩,⟨rfl,nofun,rfl,rfl,rfl,_,rfl,rfl,rfl,dN.of_eq rfl⟩,⟨rfl,nofun,rfl,rfl,rfl,_,rfl,rfl,rfl,dN.of_eq ?_⟩,trivial⟩
    rw[ER p hi',h4,h5]; rfl
   ·replace h5:decide (((p.rules.getD i default).all.length:Int)>0)=false:=h5
    conv=>whnf
    refine .mk (by simp only[okI] at *; omega) ?_
    conv=>whnf
    refine⟨i+1,[0,1,58],by omega,by omega,⟨⟨_,rfl,.eq rfl⟩,trivial⟩,⟨⟨_,rfl,.eq rfl⟩,⟨_,rfl,.eq rfl⟩,⟨_,rfl,.eq rfl⟩,trivial⟩,⟨rfl,nofun,rfl,rfl,rfl,_,rfl,rfl,rfl,dN.of_eq rfl⟩,⟨rfl,nofun,rfl,rfl,rfl,_,rfl,rfl,rfl,dN.of_eq rfl⟩,⟨rfl,nofun,rfl,rfl,rfl,_,rfl,rfl,rfl,dN.of_eq ?_⟩,trivial⟩
    rw[ER p hi',h4,h5]; rfl
 have hi':p.rules.length<=i:=by simpa using h3
 have e:i=p.rules.length:=Nat.le_antisymm hi hi'
 subst e
 conv=>whnf
 refine ak.eqv ?_
 rw[FY,h1',qF]
 simp only[List.take_length]
 rfl
theorem Vl{x:Int}:(decide (x<0)||decide (1048576<x))= !(Ic x):=by
 unfold Ic; rw[Bool.eq_iff_iff]; simp
def aaO(p:aO):Int:=bif dH p !=0 then dH p else bif !(qF p).cover&& !(qF p).monadic then 7 else 0
theorem S.rO(e:Elem)(hl:e.counts.length<2^40):aj Tryz.prog 84 [.dat (.elem e)] (.int (zD e)):=by
 refine aj.of Bd.rO (by simp) rfl rfl ?_
 conv=>whnf
 refine⟨fun h1=>?_,fun h1=>?_⟩
 ·have h:6<e.counts.length:=by
   have:(6:Int)<e.counts.length:=of_decide_eq_true h1
   omega
  conv=>whnf
  exact ak.int (by rw[zD,if_pos h])
 have h: ¬ 6<e.counts.length:=by
  have: ¬ (6:Int)<e.counts.length:=of_decide_eq_false h1
  omega
 conv=>whnf
 refine aI.same [1] (fun i:Nat=>[(4,.int i),(3,.int (e.counts.take i).sum)]) (fun i=>i<=e.counts.length/\(e.counts.take i).all Ic=true) (fun i=>e.counts.length-i) 0 rfl (by decide) rfl (fun _=>rfl) ⟨by omega,by simp⟩ ⟨⟨_,rfl,rfl⟩,⟨_,rfl,rfl⟩,trivial⟩ ?_
 conv=>whnf
 refine⟨rfl,?_⟩
 rintro i ⟨hi,hall⟩
 have hb:=xI hall
 have hb':((e.counts.take i).length:Int)<=6:=by simp; omega
 conv=>whnf
 refine⟨fun h3=>?_,fun h3=>?_⟩
 ·have hi':i<e.counts.length:=by simpa using h3
  have hs:=Ib hi'
  conv=>whnf
  repeat(refine VC.mk (by first|exact id|(intro h; rw[h]; rfl)|(intro h; (repeat' apply And.intro)<;>first|exact h|omega|(simp only[Rw.qp]; omega)|(simp only[Rw.rng]; omega))|(simp only[Rw.rng] at *; first|omega|(simp_all; done)|(simp_all; omega))) ?_; conv=>whnf)
  refine⟨fun h4=>?_,fun h4=>?_⟩
  ·conv=>whnf
   replace h4:(decide (e.counts.getD i 0<0)||decide (1048576<e.counts.getD i 0))=true:=h4
   rw[Vl] at h4
   exact ak.int (by rw[zD,if_neg h,yO (d:=0) hi' (by simpa using h4)]; rfl)
  ·replace h4:(decide (e.counts.getD i 0<0)||decide (1048576<e.counts.getD i 0))=false:=h4
   rw[Vl] at h4
   have h4':Ic (e.counts.getD i 0)=true:=by simpa using h4
   have adl:(e.counts.take (i+1)).all Ic=true:=by rw[AU (d:=0) hi' hall]; exact h4'
   have hc:=xI adl
   have hc':((e.counts.take (i+1)).length:Int)<=6:=by simp; omega
   conv=>whnf
   repeat(refine VC.mk (by first|(simp only[okI,Int.toNat_natCast] at *; rw[<- hs]; omega)|(simp only[okI,Rw.rng] at *; first|omega|(simp_all; done)|(simp_all; omega))) ?_; conv=>whnf)
   refine⟨i+1,⟨by omega,adl⟩,by omega,⟨⟨_,rfl,rfl⟩,⟨_,rfl,?_⟩,trivial⟩,?_,rfl⟩
   ·rw[hs]; simp[V.aG,qZ]
   ·repeat' (first|exact trivial|exact⟨_,rfl,rfl⟩|constructor)
 ·have hi':e.counts.length<=i:=by simpa using h3
  rw[List.take_of_length_le hi'] at hall
  rw[List.take_of_length_le hi']
  conv=>whnf
  exact ak.int (by rw[zD,if_neg h,if_pos hall])
end Go.Proofs.YtajmbgljnaljiaaGreatDoor
