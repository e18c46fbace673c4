/-
 The two programs' rules for a protocol's rules say the same. No condition.
-/
import Derived.Test.YtifbibbicplneaaGreatDoorRa
import Derived.Test.YtifbibbicplneaaGreatDoorLf
namespace Go.Proofs.YtifbibbicplneaaGreatDoor
open Go.Ab Go.Proofs
theorem vJ{x n:Int}:(!(gG x 0 (n-1)))=nJ x n:=by rw[oH,Bool.not_not]
theorem vals_eq(p:aP)(r:Rule):zH p r=((decide (r.read< -1)||decide (r.read>=p.values.length))||(decide (r.write< -1)||decide (r.write>=p.values.length))):=by
 simp only[zH,vJ,nJ]
 rw[Bool.eq_iff_iff]; simp; omega
theorem Zf(a b:Bool)(v:Int)(r:List Int)(h:v≠0):aS (bZ (a||b) v::r)=aS (bZ a v::bZ b v::r):=by
 cases a<;>cases b<;>simp[bZ,aS,h]
theorem NQ(p:aP)(l:List zJ)(r:List Int):aS (xu p l::r)=aS (jZ p l::bZ (decide ((l.length:Int)>2)) 4::r):=by
 by_cases h:jZ p l=0
 ·rw[show xu p l=bZ (decide ((l.length:Int)>2)) 4 from if_pos h,h]; rfl
 ·rw[show xu p l=jZ p l from if_neg h,fN h,fN h]
theorem TQ{c d:Bool}:(bif c then true else d)=(c||d):=by cases c<;>rfl
theorem len_nil{α:Type}{l:List α}(h:decide ((l.length:Int)>0)=false):l=[]:=by
 cases l with
 |nil=>rfl
 |cons a r=>simp at h
theorem KI{r:Rule}{t:Int}(h:lX r t=false) :
  (r.kind≠1->r.guards=[]/\r.ex=[]/\r.all=[]/\r.send=[])/\(r.kind≠1->r.kind≠2->r.kind≠3->r.read= -1/\r.write= -1) /\
  (r.kind≠3->r.response=[])/\(r.kind≠5->r.direction=0)/\(r.kind≠4->r.pos=0/\r.left=[]/\r.right=[])/\(¬(r.kind=4/\t=4)->r.parent=[]):=by
 simp only[lX,TQ,Bool.or_eq_false_iff] at h
 obtain⟨h1,h2,h3,⟨h4,h5⟩,h6,h7⟩:=h
 refine⟨fun k=>?_,fun k1 k2 k3=>?_,fun k=>?_,fun k=>?_,fun k=>?_,fun k=>?_⟩
 ·simp only[beq_eq_false_iff_ne.2 k,Bool.not_false,Bool.true_and,Bool.or_eq_false_iff] at h1
  exact⟨len_nil h1.1.1.1,len_nil h1.1.1.2,len_nil h1.1.2,len_nil h1.2⟩
 ·simp only[beq_eq_false_iff_ne.2 k1,beq_eq_false_iff_ne.2 k2,beq_eq_false_iff_ne.2 k3,Bool.not_false,Bool.true_and,Bool.or_eq_false_iff] at h2
  exact⟨QY h2.1,QY h2.2⟩
 ·simp only[beq_eq_false_iff_ne.2 k,Bool.not_false,Bool.true_and] at h4
  exact len_nil h4
 ·simp only[beq_eq_false_iff_ne.2 k,Bool.not_false,Bool.true_and] at h5
  exact QY h5
 ·simp only[beq_eq_false_iff_ne.2 k,Bool.not_false,Bool.true_and,Bool.or_eq_false_iff] at h6
  exact⟨QY h6.1.1,len_nil h6.1.2,len_nil h6.2⟩
 ·refine len_nil ?_
  rw[Bool.and_eq_false_iff] at h7
  rcases h7 with h7|h7
  ·exact h7
  ·simp only[Bool.not_eq_false',Bool.and_eq_true,beq_iff_eq] at h7
   exact absurd h7 k
theorem kind_eq{r:Rule}{t:Int}:((!(gG r.kind 1 5)||(decide (r.kind<=3) !=(t==1)))||lX r t)=(!(uz r.kind t)||kS r t):=by
 by_cases hk:1<=r.kind/\r.kind<=5
 ·rw[zW hk]
  congr 1
  have hk':r.kind=1\/r.kind=2\/r.kind=3\/r.kind=4\/r.kind=5:=by omega
  rcases hk' with e|e|e|e|e<;>rw[e]<;>cases ht:(t==1)<;>simp[gG,uz,ht]
 ·have h1:gG r.kind 1 5=false:=by rw[gG,Bool.and_eq_false_iff]; simp; omega
  have h2:uz r.kind t=false:=by
   have:r.kind≠1/\r.kind≠2/\r.kind≠3/\r.kind≠4/\r.kind≠5:=by omega
   obtain⟨a,b,c,d,e⟩:=this
   simp[uz,a,b,c,d,e]
  rw[h1,h2]; rfl
theorem Hg(p:aP)(r:Rule):(wE p r !=0)=(nJ r.fr p.states.length||nJ r.to p.states.length):=by
 simp only[wE,cu]
 cases nJ r.fr p.states.length<;>cases nJ r.to p.states.length<;>rfl
theorem acY(p:aP)(r:Rule)(h:(wE p r !=0)=true):wE p r=5:=by
 rw[Hg] at h
 simp only[wE,cu]
 revert h
 cases nJ r.fr p.states.length<;>cases nJ r.to p.states.length<;>intro h<;>first|rfl|cases h
theorem AQ(n:Int):dO [] n=0:=rfl
theorem WV(x:Int):aS [x,0,0,0,0,0,0]=aS [x]:=by
 simp only[aS]; simp
theorem CG{a:Int}{X Y:List Int}(h:aS X=aS Y):aS (a::X)=aS (a::Y):=by simp only[aS,h]
theorem TB(x:Int):aS [x,0,0,0,0,0,0,0]=aS [x]:=by
 simp only[aS]; simp
theorem TD(x:Int):aS [x,0,0]=aS [x]:=by
 simp only[aS]; simp
theorem JR(p:aP)(r:Rule):aS [bZ (zH p r) 5,0,0,0,0,0,0,0]=aS [jI p r.read,jI p r.write]:=by
 rw[vals_eq,Zf _ _ _ _ (by decide)]
 exact CG (TB _)
theorem Zg(p:aP)(i:Nat):yN p i=gB p i:=by
 simp only[yN,gB,rE,qK]
 generalize p.rules.getD i default=r
 cases hv:validName r.name with
 |false=>rfl
 |true =>
 cases ha:(p.rules.take i).any (fun x=>x.name==r.name) with
 |true=>rfl
 |false =>
 simp only[GN,kind_eq,Bool.not_true,Bool.or_false,cond_false]
 cases hk:(!(uz r.kind p.topology)||kS r p.topology) with
 |true=>rfl
 |false =>
 have hk2:=hk
 rw[<- kind_eq,Bool.or_eq_false_iff,Bool.or_eq_false_iff,Bool.not_eq_false'] at hk2
 obtain⟨⟨k1,_⟩,k2⟩:=hk2
 obtain⟨u1,u2,u3,u4,u5,u6⟩:=KI k2
 have hk':r.kind=1\/r.kind=2\/r.kind=3\/r.kind=4\/r.kind=5:=by
  simp only[gG,Bool.and_eq_true,decide_eq_true_eq] at k1; omega
 cases he:(wE p r !=0) with
 |true =>
  rw[acY p r he]
  rw[Hg] at he
  simp only[GL,vJ,he]; rfl
 |false =>
 rw[Hg] at he
 simp only[GL,vJ,he,Bool.false_or,cond_false]
 rcases hk' with e|e|e|e|e
 ·have a5:=u5 (by omega)
  have m4:Dy p r=false:=by simp[Dy,e]
  have d1:Dz p r=false:=by simp[Dz,e]
  have d2:DC p r=false:=by simp[DC,e]
  simp only[gI,m4,d1,d2,a5.2.1,a5.2.2,u6 (by omega),e,AQ,Int.reduceBEq,Bool.or_self,Bool.false_and,cond_false,cond_true]
  rw[NQ]
  refine CG (CG (CG (CG ?_)))
  rw[vals_eq,Zf _ _ _ _ (by decide)]
  refine CG (CG ?_)
  exact WV _
 ·obtain⟨g1,g2,g3,g4⟩:=u1 (by omega)
  have a5:=u5 (by omega)
  have m4:Dy p r=false:=by simp[Dy,e]
  have d1:Dz p r=false:=by simp[Dz,e]
  have d2:DC p r=false:=by simp[DC,e]
  simp only[gI,m4,d1,d2,g1,g2,g3,g4,a5.2.1,a5.2.2,u6 (by omega),e,AQ,Int.reduceBEq,Bool.or_false,Bool.true_and,cond_false,cond_true,cu]
  cases nJ r.gQ p.states.length with
  |true=>rfl
  |false =>
   cases nJ r.BL p.states.length with
   |true=>rfl
   |false=>exact JR p r
 ·obtain⟨g1,g2,g3,g4⟩:=u1 (by omega)
  have a5:=u5 (by omega)
  have m4:Dy p r=false:=by simp[Dy,e]
  have d1:Dz p r=false:=by simp[Dz,e]
  have d2:DC p r=false:=by simp[DC,e]
  simp only[gI,m4,d1,d2,g1,g2,g3,g4,a5.2.1,a5.2.2,u6 (by omega),e,AQ,Int.reduceBEq,Bool.or_self,Bool.false_and,cond_false,cond_true,DZ]
  cases ((r.response.length:Int) !=p.states.length) with
  |true=>rfl
  |false =>
   simp only[cond_false]
   by_cases hz:pF r.response p.states.length=0
   ·rw[hz]; exact JR p r
   ·rw[show(pF r.response p.states.length !=0)=true by simpa using hz,fN hz]; rfl
 ·obtain⟨g1,g2,g3,g4⟩:=u1 (by omega)
  obtain⟨v1,v2⟩:=u2 (by omega) (by omega) (by omega)
  have m4:Dy p r=Zh p r:=by
   simp only[Dy,Zh,e,og]; rfl
  have d1:Dz p r=false:=by simp[Dz,e]
  have d2:DC p r=false:=by simp[DC,e]
  have vv:zH p r=false:=by simp[zH,v1,v2]
  simp only[gI,m4,d1,d2,vv,g1,g2,g3,g4,e,AQ,Int.reduceBEq,Bool.or_self,Bool.false_and,cond_false,cond_true]
  exact CG (CG (CG (TD _)))
 ·obtain⟨g1,g2,g3,g4⟩:=u1 (by omega)
  obtain⟨v1,v2⟩:=u2 (by omega) (by omega) (by omega)
  have a5:=u5 (by omega)
  have m4:Dy p r=false:=by simp[Dy,e]
  have vv:zH p r=false:=by simp[zH,v1,v2]
  have d1:Dz p r=((p.topology==4)&&(decide (r.direction<3)||decide (r.direction>4))):=by
   simp only[Dz,e,og]; rfl
  have d2:DC p r=(!(p.topology==4)&&(decide (r.direction<1)||decide (r.direction>2))):=by
   simp only[DC,e,og]; rfl
  simp only[gI,m4,d1,d2,vv,g1,g2,g3,g4,a5.2.1,a5.2.2,u6 (by omega),e,AQ,Int.reduceBEq,Bool.or_true,Bool.true_and,cond_false,cu]
  cases nJ r.gQ p.states.length with
  |true=>cases (p.topology==4)<;>rfl
  |false =>
   cases nJ r.BL p.states.length with
   |true=>cases (p.topology==4)<;>rfl
   |false =>
    cases (p.topology==4) with
    |true=>cases (decide (r.direction<3)||decide (r.direction>4))<;>rfl
    |false=>cases (decide (r.direction<1)||decide (r.direction>2))<;>rfl
theorem Zi{p:aP}:(!(gG p.topology 1 4)|| !(gG p.fault 0 3))=uy p:=by
 simp only[og,uy,Bool.or_assoc]
theorem S.WW(p:aP)(i:Nat)(hi:i<p.rules.length)(hp:bH p):aj Tryz.prog 161 [.dat (.bW p),.int i] (.int (gB p i)):=by
 rw[<- Zg]; exact S.AP p i hi hp
theorem aa5{h:Hz}{j:Nat}{Z:Nat->Prop}{l:List Str}(hz:Z j)(q:h.get j=some (.row 9 0 (.strs l) [])):T.sub Z h.au (V.row 0 false (.strs l)).aH (V.own j).aH:=by
 show T.sub Z h.au (.sl 0 false (l.map eS)) (.own j)
 simp only[T.sub]
 refine⟨trivial,hz,?_,by decide,9,?_⟩
 ·rw[gJ]; intro t ht; obtain⟨x,_,rfl⟩:=List.mem_map.1 ht; rfl
 ·have:=aK q
  rw[this]; simp[OV.aG,Rw.aX,V.aX]
theorem S.oh(p:aP)(hp:bH p):aj Tryz.prog 133 [.dat (.bW p)] (.int (bM p)):=by
 have g1:=hp.states; have g2:=hp.messages; have g3:=hp.values; have g4:=hp.bY; have g5:=hp.initial; have g6:=hp.leader; have g7:=hp.rules
 refine aj.of Bd.oh (by simp) rfl rfl ?_
 conv=>whnf
 refine ah.pure (S.jw p.name) rfl ?_
 conv=>whnf
 refine⟨fun h1=>?_,fun h1=>?_⟩
 ·conv=>whnf
  exact ak.int (by rw[bM,h1]; rfl)
 conv=>whnf
 refine ah.pure (S.bC p.topology 1 4) rfl ?_
 conv=>whnf
 repeat(refine VC.mk id ?_; conv=>whnf)
 refine ah.cO (fun _=>S.bC p.fault 0 3) rfl ?_
 conv=>whnf
 repeat(refine VC.mk (by first|exact id|(intro h; rw[h]; rfl)) ?_; conv=>whnf)
 refine⟨fun h2=>?_,fun h2=>?_⟩
 ·conv=>whnf
  rw[Zi] at h2
  exact ak.int (by rw[bM,h1,h2]; rfl)
 rw[Zi] at h2
 conv=>whnf
 refine⟨fun h3=>?_,fun h3=>?_⟩
 ·conv=>whnf
  exact ak.int (by rw[bM,h1,h2,show((p.states.length:Int)==0)=true from h3]; rfl)
 replace h3:((p.states.length:Int)==0)=false:=h3
 conv=>whnf
 repeat(refine VC.mk (by first|exact id|(intro h; rw[h]; rfl)) ?_; conv=>whnf)
 refine⟨fun h4=>?_,fun h4=>?_⟩
 ·conv=>whnf
  exact ak.int (by rw[bM,h1,h2,h3,show vI p=true from h4]; rfl)
 replace h4:vI p=false:=h4
 have h0:0<p.states.length:=by
  rcases Nat.eq_zero_or_pos p.states.length with e|e
  ·rw[e] at h3; exact absurd h3 (by decide)
  ·exact e
 have hlen:(allNames p).length<2^30:=by simp only[allNames,List.length_append]; omega
 conv=>whnf
 repeat(refine VC.mk (by simp only[kJ,jG,Rw.len,List.length_append]; omega) ?_; conv=>whnf)
 refine aC.fz 3 57 0 (.strs (allNames p)) rfl rfl (aa5 rfl rfl) ?_
 conv=>whnf
 refine aC.same [1,3] (fun i:Nat=>[(4,.int i)]) (fun i=>i<=(allNames p).length/\(List.range i).any (NR (allNames p))=false) (fun i=>(allNames p).length-i) 0 rfl (by decide) rfl (fun _=>rfl) ⟨Nat.zero_le _,rfl⟩ ⟨⟨_,rfl,rfl⟩,trivial⟩ ?_
 conv=>whnf
 refine⟨rfl,?_⟩
 rintro i ⟨hi,hall⟩
 conv=>whnf
 refine⟨fun h5=>?_,fun h5=>?_⟩
 ·have hi':i<(allNames p).length:=by have:(i:Int)<((allNames p).length:Int):=of_decide_eq_true h5; omega
  conv=>whnf
  refine .mk (by simp only[Rw.rng] at *; omega) ?_
  conv=>whnf
  refine ah.pure (S.jw ((allNames p).getD i [])) rfl ?_
  conv=>whnf
  repeat(refine VC.mk (by first|exact id|exact fun h=>⟨h,h⟩|(intro h; (repeat' apply And.intro)<;>first|exact h|omega|(simp only[Rw.kK]; omega)|(simp only[Rw.rng]; omega))) ?_; conv=>whnf)
  refine ah.cO (fun _=>S.qA ((allNames p).take i) ((allNames p).getD i []) _ (by rw[List.length_take]; omega)) rfl ?_
  conv=>whnf
  refine .mk (by intro h; rw[h]; rfl) ?_
  conv=>whnf
  refine⟨fun h6=>?_,fun h6=>?_⟩
  ·conv=>whnf
   refine ak.int ?_
   rw[bM,h1,h2,h3,h4,show zy p=2 by rw[zy,xP.2 ⟨i,hi',h6⟩]; rfl]; rfl
  ·conv=>whnf
   refine .mk (by simp only[okI] at *; omega) ?_
   conv=>whnf
   refine⟨i+1,⟨by omega,?_⟩,by omega,⟨⟨_,rfl,rfl⟩,trivial⟩,?_,rfl⟩
   ·rw[List.range_succ,List.any_append,hall]
    simp only[List.any_cons,List.any_nil,Bool.or_false,Bool.false_or]; exact h6
   ·repeat' (first|exact trivial|exact⟨_,rfl,rfl⟩|constructor)
 have hi':(allNames p).length<=i:=by have: ¬ ((i:Int)<((allNames p).length:Int)):=of_decide_eq_false h5; omega
 have e:i=(allNames p).length:=Nat.le_antisymm hi hi'
 subst e
 have h5:zy p=0:=by rw[zy,hall]; rfl
 clear hi hall hi' hlen
 conv=>whnf
 repeat(refine VC.mk (by first|exact id|(intro h; rw[h]; rfl)|(intro h; simp[h]; done)|(intro h; simp_all; done)) ?_; conv=>whnf)
 refine⟨fun h6=>?_,fun h6=>?_⟩
 ·conv=>whnf
  exact ak.int (by rw[bM,h1,h2,h3,h4,h5,show Qv p=true from h6]; rfl)
 replace h6:Qv p=false:=h6
 conv=>whnf
 refine aC.same [1] (fun i:Nat=>[(5,.int i)]) (fun i=>i<=p.bY.length/\(p.bY.take i).any (fun l=> !(Qo l))=false) (fun i=>p.bY.length-i) 0 rfl (by decide) rfl (fun _=>rfl) ⟨by omega,by simp⟩ ⟨⟨_,rfl,rfl⟩,trivial⟩ ?_
 conv=>whnf
 refine⟨rfl,?_⟩
 rintro i ⟨hi,hall⟩
 conv=>whnf
 refine⟨fun h7=>?_,fun h7=>?_⟩
 ·have hi':i<p.bY.length:=by simpa using h7
  conv=>whnf
  refine .mk (by simp only[Rw.rng] at *; omega) ?_
  conv=>whnf
  refine ah.pure (S.zx (p.bY.getD i default)) rfl ?_
  conv=>whnf
  refine⟨fun h8=>?_,fun h8=>?_⟩
  ·conv=>whnf
   exact ak.int (by rw[bM,h1,h2,h3,h4,h5,h6,dS (d:=default) hi' h8]; rfl)
  ·conv=>whnf
   refine .mk (by simp only[okI] at *; omega) ?_
   conv=>whnf
   refine⟨i+1,⟨by omega,?_⟩,by omega,⟨⟨_,rfl,rfl⟩,trivial⟩,?_,rfl⟩
   ·rw[fU (d:=default) hi' hall]; exact h8
   ·repeat' (first|exact trivial|exact⟨_,rfl,rfl⟩|constructor)
 have hi':p.bY.length<=i:=by simpa using h7
 rw[List.take_of_length_le hi'] at hall
 clear hi hi' h7
 conv=>whnf
 refine ah.pure (S.iI p.initial p.states.length false (by omega) ⟨by omega,by omega⟩) rfl ?_
 conv=>whnf
 refine⟨fun h7=>?_,fun h7=>?_⟩
 ·replace h7:=Gt h7
  have:xU p=dO p.initial p.states.length:=fN h7
  conv=>whnf
  exact ak.int (by rw[bM,h1,h2,h3,h4,h5,h6,hall,this,show(dO p.initial p.states.length !=0)=true by simpa using h7]; rfl)
 replace h7:=uQ h7
 conv=>whnf
 refine⟨fun h8=>?_,fun h8=>?_⟩
 ·replace h8:((p.initial.length:Int)==0)=true:=h8
  have:xU p=1:=by rw[xU,h7,h8]; rfl
  conv=>whnf
  exact ak.int (by rw[bM,h1,h2,h3,h4,h5,h6,hall,this]; rfl)
 replace h8:((p.initial.length:Int)==0)=false:=h8
 conv=>whnf
 refine ah.pure (S.iI p.leader p.states.length false (by omega) ⟨by omega,by omega⟩) rfl ?_
 conv=>whnf
 refine⟨fun h9=>?_,fun h9=>?_⟩
 ·replace h9:=Gt h9
  have:xU p=dO p.leader p.states.length:=by rw[xU,h7,h8]; exact fN h9
  conv=>whnf
  exact ak.int (by rw[bM,h1,h2,h3,h4,h5,h6,hall,this,show(dO p.leader p.states.length !=0)=true by simpa using h9]; rfl)
 replace h9:=uQ h9
 have h10:xU p=0:=by rw[xU,h7,h8,h9]; rfl
 conv=>whnf
 refine aC.same [1] (fun i:Nat=>[(8,.int i)]) (fun i=>i<=p.rules.length/\CO p=aS (((List.range p.rules.length).drop i).map (gB p))) (fun i=>p.rules.length-i) 0 rfl (by decide) rfl (fun _=>rfl) ⟨by omega,by simp[CO]⟩ ⟨⟨_,rfl,rfl⟩,trivial⟩ ?_
 conv=>whnf
 refine⟨rfl,?_⟩
 rintro i ⟨hi,hr⟩
 conv=>whnf
 refine⟨fun h11=>?_,fun h11=>?_⟩
 ·have hi':i<p.rules.length:=by simpa using h11
  rw[JU hi'] at hr
  simp only[aS] at hr
  conv=>whnf
  refine ah.pure (S.WW p i hi' hp) rfl ?_
  conv=>whnf
  refine⟨fun h12=>?_,fun h12=>?_⟩
  ·conv=>whnf
   have XA:gB p i≠0:=Gt h12
   rw[if_neg XA] at hr
   exact ak.int (by rw[bM,h1,h2,h3,h4,h5,h6,hall,h10,hr,show(gB p i !=0)=true from h12]; rfl)
  ·conv=>whnf
   refine .mk (by simp only[okI] at *; omega) ?_
   conv=>whnf
   have XA:gB p i=0:=uQ h12
   rw[if_pos XA] at hr
   refine⟨i+1,⟨by omega,hr⟩,by omega,⟨⟨_,rfl,rfl⟩,trivial⟩,?_,rfl⟩
   repeat' (first|exact trivial|exact⟨_,rfl,rfl⟩|constructor)
 have hi':p.rules.length<=i:=by simpa using h11
 rw[List.drop_eq_nil_of_le (by simpa using hi')] at hr
 conv=>whnf
 refine ah.pure (S.rD p hp) rfl ?_
 conv=>whnf
 refine⟨fun h12=>?_,fun h12=>?_⟩
 ·conv=>whnf
  exact ak.int (by rw[bM,h1,h2,h3,h4,h5,h6,hall,h10,hr,show decide (((yL p.rules).length:Int)>3)=true from h12]; rfl)
 ·conv=>whnf
  exact ak.int (by rw[bM,h1,h2,h3,h4,h5,h6,hall,h10,hr,show decide (((yL p.rules).length:Int)>3)=false from h12]; rfl)
def Qw(p:aP)(i:Nat):V:=.agg [.bool (((p.topology==1)&&((p.values.length:Int)==0))&&(p.rules.take i).foldl Qx true),.bool (uj p&& !((p.rules.take i).foldl WX false)),.bool ((p.topology==2)||(p.topology==3)),.bool (p.topology==4),.bool (uj p&&decide ((p.states.length:Int)<=4))]
def badR(r:Rule):Bool:=r.kind !=1||decide (r.fr>=r.to)||decide ((r.ex.length:Int)>0)||decide ((r.all.length:Int)>0)
theorem aaW{acc:Bool}{r:Rule}(h:badR r=true):Qx acc r=false:=by
 simp only[badR,Bool.or_eq_true,bne_iff_ne,decide_eq_true_eq] at h
 simp only[Qx]
 rw[Bool.eq_false_iff]; intro q
 simp only[Bool.and_eq_true,beq_iff_eq,decide_eq_true_eq] at q
 omega
theorem acZ{acc:Bool}{r:Rule}(h:badR r=false):Qx acc r=acc:=by
 simp only[badR,Bool.or_eq_false_iff,bne_eq_false_iff_eq,decide_eq_false_iff_not] at h
 obtain⟨⟨⟨a,b⟩,c⟩,d⟩:=h
 simp only[Qx]
 rw[show(r.kind==1)=true from beq_iff_eq.2 a,decide_eq_true (by omega),show((r.ex.length:Int)==0)=true from beq_iff_eq.2 (by omega),show((r.all.length:Int)==0)=true from beq_iff_eq.2 (by omega)]
 simp
theorem aeH(p:aP):Qw p 0= .agg [.bool ((p.topology==1)&&((p.values.length:Int)==0)),.bool (uj p),.bool ((p.topology==2)||(p.topology==3)),.bool (p.topology==4),.bool (uj p&&decide ((p.states.length:Int)<=4))]:=by
 simp[Qw]
theorem EU(p:aP){i:Nat}(hi:i<p.rules.length):Qw p (i+1) =
  .agg [.bool (bif badR (p.rules.getD i default) then false else((p.topology==1)&&((p.values.length:Int)==0))&&(p.rules.take i).foldl Qx true),
   .bool (bif decide (((p.rules.getD i default).all.length:Int)>0) then false else uj p&& !((p.rules.take i).foldl WX false)),.bool ((p.topology==2)||(p.topology==3)),.bool (p.topology==4),.bool (uj p&&decide ((p.states.length:Int)<=4))]:=by
 simp only[Qw,AO (d:=default) hi]
 cases hb:badR (p.rules.getD i default) with
 |true =>
  rw[aaW hb,WX]
  cases decide (((p.rules.getD i default).all.length:Int)>0)<;>simp
 |false =>
  rw[acZ hb,WX]
  cases decide (((p.rules.getD i default).all.length:Int)>0)<;>simp
theorem S.oz(p:aP)(hp:bH p):aj Tryz.prog 86 [.dat (.bW p)] (Gm p):=by
 have g1:=hp.states; have g2:=hp.messages; have g3:=hp.values; have g4:=hp.bY; have g7:=hp.rules
 refine aj.of Bd.oz (by simp) rfl rfl ?_
 conv=>whnf
 refine ah.pure (S.oh p hp) rfl ?_
 conv=>whnf
 refine⟨fun h1=>?_,fun h1=>?_⟩
 ·conv=>whnf
  refine ak.eqv ?_
  rw[Gm,h1]; rfl
 have h1':bM p=0:=uQ h1
 conv=>whnf
 repeat(refine VC.mk (by first|exact id|(intro h; rw[h]; rfl)) ?_; conv=>whnf)
 refine aC.objs 100 [1,2,7] (fun i:Nat=>[(8,.int i)]) (fun i=>[(0,.box 27 11 (.dat (.bW p))),(1,.box 122 6 (ad3 D6)),(58,.box 122 6 (Qw p i))]) (fun i=>i<=p.rules.length) (fun i=>p.rules.length-i) 0 [0,1,58] rfl (by decide) (fun _=>rfl) (Nat.zero_le _) ?_ ?_ ?_
 ·exact⟨⟨_,rfl,.eq rfl⟩,trivial⟩
 ·refine⟨⟨rfl,nofun,rfl,rfl,rfl,_,rfl,rfl,rfl,aV.of_eq rfl⟩,⟨rfl,nofun,rfl,rfl,rfl,_,rfl,rfl,rfl,aV.of_eq rfl⟩,⟨rfl,nofun,rfl,rfl,rfl,_,rfl,rfl,rfl,aV.of_eq ?_⟩,trivial⟩
  rw[aeH]; rfl
 conv=>whnf
 refine⟨⟨⟨_,rfl,.eq rfl⟩,⟨_,rfl,.eq rfl⟩,⟨_,rfl,.eq rfl⟩,trivial⟩,rfl,?_⟩
 rintro i hi
 have g8:=hp.rule i
 have g9:=g8.ex; have g10:=g8.all
 conv=>whnf
 refine⟨fun h3=>?_,fun h3=>?_⟩
 ·have hi':i<p.rules.length:=by simpa using h3
  conv=>whnf
  repeat(refine VC.mk (by first|exact id|exact fun h=>⟨h,h⟩|(intro h; rw[h]; rfl)|(simp only[Rw.rng] at *; omega)) ?_; conv=>whnf)
  refine⟨fun h4=>?_,fun h4=>?_⟩
  ·replace h4:badR (p.rules.getD i default)=true:=h4
   conv=>whnf
   refine⟨fun h5=>?_,fun h5=>?_⟩
   ·replace h5:decide (((p.rules.getD i default).all.length:Int)>0)=true:=h5
    conv=>whnf
    refine .mk (by simp only[okI] at *; omega) ?_
    conv=>whnf
    refine⟨i+1,[0,1,58],by omega,by omega,⟨⟨_,rfl,.eq rfl⟩,trivial⟩,⟨⟨_,rfl,.eq rfl⟩,⟨_,rfl,.eq rfl⟩,⟨_,rfl,.eq rfl⟩,trivial⟩,⟨rfl,nofun,rfl,rfl,rfl,_,rfl,rfl,rfl,aV.of_eq rfl⟩,⟨rfl,nofun,rfl,rfl,rfl,_,rfl,rfl,rfl,aV.of_eq rfl⟩,⟨rfl,nofun,rfl,rfl,rfl,_,rfl,rfl,rfl,aV.of_eq ?_⟩,trivial⟩
    rw[EU p hi',h4,h5]; rfl
   ·replace h5:decide (((p.rules.getD i default).all.length:Int)>0)=false:=h5
    conv=>whnf
    refine .mk (by simp only[okI] at *; omega) ?_
    conv=>whnf
    refine⟨i+1,[0,1,58],by omega,by omega,⟨⟨_,rfl,.eq rfl⟩,trivial⟩,⟨⟨_,rfl,.eq rfl⟩,⟨_,rfl,.eq rfl⟩,⟨_,rfl,.eq rfl⟩,trivial⟩,⟨rfl,nofun,rfl,rfl,rfl,_,rfl,rfl,rfl,aV.of_eq rfl⟩,⟨rfl,nofun,rfl,rfl,rfl,_,rfl,rfl,rfl,aV.of_eq rfl⟩,⟨rfl,nofun,rfl,rfl,rfl,_,rfl,rfl,rfl,aV.of_eq ?_⟩,trivial⟩
    rw[EU p hi',h4,h5]; rfl
  ·replace h4:badR (p.rules.getD i default)=false:=h4
   conv=>whnf
   refine⟨fun h5=>?_,fun h5=>?_⟩
   ·replace h5:decide (((p.rules.getD i default).all.length:Int)>0)=true:=h5
    conv=>whnf
    refine .mk (by simp only[okI] at *; omega) ?_
    conv=>whnf
    refine⟨i+1,[0,1,58],by omega,by omega,⟨⟨_,rfl,.eq rfl⟩,trivial⟩,⟨⟨_,rfl,.eq rfl⟩,⟨_,rfl,.eq rfl⟩,⟨_,rfl,.eq rfl⟩,trivial⟩,⟨rfl,nofun,rfl,rfl,rfl,_,rfl,rfl,rfl,aV.of_eq rfl⟩,⟨rfl,nofun,rfl,rfl,rfl,_,rfl,rfl,rfl,aV.of_eq rfl⟩,⟨rfl,nofun,rfl,rfl,rfl,_,rfl,rfl,rfl,aV.of_eq ?_⟩,trivial⟩
    rw[EU p hi',h4,h5]; rfl
   ·replace h5:decide (((p.rules.getD i default).all.length:Int)>0)=false:=h5
    conv=>whnf
    refine .mk (by simp only[okI] at *; omega) ?_
    conv=>whnf
    refine⟨i+1,[0,1,58],by omega,by omega,⟨⟨_,rfl,.eq rfl⟩,trivial⟩,⟨⟨_,rfl,.eq rfl⟩,⟨_,rfl,.eq rfl⟩,⟨_,rfl,.eq rfl⟩,trivial⟩,⟨rfl,nofun,rfl,rfl,rfl,_,rfl,rfl,rfl,aV.of_eq rfl⟩,⟨rfl,nofun,rfl,rfl,rfl,_,rfl,rfl,rfl,aV.of_eq rfl⟩,⟨rfl,nofun,rfl,rfl,rfl,_,rfl,rfl,rfl,aV.of_eq ?_⟩,trivial⟩
    rw[EU p hi',h4,h5]; rfl
 have hi':p.rules.length<=i:=by simpa using h3
 have e:i=p.rules.length:=Nat.le_antisymm hi hi'
 subst e
 conv=>whnf
 refine ak.eqv ?_
 rw[Gm,h1',eP]
 simp only[List.take_length]
 rfl
theorem Ib{x:Int}:(decide (x<0)||decide (1048576<x))= !(Fq x):=by
 unfold Fq; rw[Bool.eq_iff_iff]; simp
def RF(p:aP):Int:=bif bM p !=0 then bM p else bif !(eP p).cover&& !(eP p).monadic then 7 else 0
def xW(p:aP)(e:Elem):Bool:=((((e.counts.length:Int) !=p.states.length)|| !(e.counts.all Fq))||decide (e.value<0))||decide (e.value>=max 1 (p.values.length:Int))
def BX(p:aP)(e:Elem):Int:=bif RF p !=0 then RF p else bZ (xW p e) 1
theorem ad4(p:aP):RF p=bif ((bM p==0)&& !(bif bM p !=0 then D6 else eP p).cover&& !(bif bM p !=0 then D6 else eP p).monadic) then 7 else bM p:=by
 unfold RF bne
 cases hz:bM p==0 with
 |true=>simp only[Bool.not_true,cond_false,Bool.true_and]; rw[show bM p=0 from beq_iff_eq.1 hz]
 |false=>rfl
theorem S.kT(p:aP)(hp:bH p):aj Tryz.prog 121 [.dat (.bW p)] (.int (RF p)):=by
 refine aj.of Bd.kT (by simp) rfl rfl ?_
 conv=>whnf
 refine ah.pure (S.iU p hp) rfl ?_
 conv=>whnf
 repeat(refine VC.mk id ?_; conv=>whnf)
 refine⟨fun h1=>?_,fun h1=>?_⟩
 ·conv=>whnf
  exact ak.int (by rw[ad4,h1]; rfl)
 ·conv=>whnf
  exact ak.int (by rw[ad4,h1]; rfl)
theorem S.jU(p:aP)(e:Elem)(hp:bH p)(he:e.counts.length<2^30):aj Tryz.prog 122 [.dat (.bW p),.dat (.elem e)] (.int (bZ (xW p e) 1)):=by
 have g1:=hp.states
 have g3:=hp.values
 refine aj.of Bd.jU (by simp) rfl rfl ?_
 conv=>whnf
 repeat(refine VC.mk id ?_; conv=>whnf)
 refine ah.cO (fun _=>S.mX e.counts false (by omega)) rfl ?_
 conv=>whnf
 repeat(refine VC.mk (by first|exact id|exact fun h=>⟨h,h⟩|(intro h; rw[h]; rfl)) ?_; conv=>whnf)
 refine⟨fun h1=>?_,fun h1=>?_⟩
 ·conv=>whnf
  exact ak.int (by rw[show xW p e=true from h1]; rfl)
 ·conv=>whnf
  exact ak.int (by rw[show xW p e=false from h1]; rfl)
theorem S.iG(p:aP)(e:Elem)(hp:bH p)(he:e.counts.length<2^30):aj Tryz.prog 79 [.dat (.bW p),.dat (.elem e)] (.int (BX p e)):=by
 refine aj.of Bd.iG (by simp) rfl rfl ?_
 conv=>whnf
 refine ah.pure (S.kT p hp) rfl ?_
 conv=>whnf
 refine⟨fun h1=>?_,fun h1=>?_⟩
 ·conv=>whnf
  exact ak.int (by rw[BX,h1]; rfl)
 ·conv=>whnf
  refine ah.pure (S.jU p e hp he) rfl ?_
  conv=>whnf
  exact ak.int (by rw[BX,h1]; rfl)
theorem TF(p:aP)(e:Elem):xW p e=(((((e.counts.length:Int) !=p.states.length)||decide (e.value<0))||decide (e.value>=max 1 (p.values.length:Int)))|| !(e.counts.all Fq)):=by
 unfold xW
 cases ((e.counts.length:Int) !=p.states.length)<;>cases (e.counts.all Fq)<;>cases decide (e.value<0)<;>cases decide (e.value>=max 1 (p.values.length:Int))<;>rfl
theorem S.Ad(p:aP)(e:Elem)(hp:bH p)(he:e.counts.length<2^30):aj Tryz.prog 73 [.dat (.bW p),.dat (.elem e)] (.bool (!(xW p e))):=by
 have g1:=hp.states
 have g3:=hp.values
 refine aj.of Bd.Ad (by simp) rfl rfl ?_
 conv=>whnf
 repeat(refine VC.mk (by first|exact id|exact fun h=>⟨h,h⟩|(intro h; rw[h]; rfl)) ?_; conv=>whnf)
 refine⟨fun h1=>?_,fun h1=>?_⟩
 ·conv=>whnf
  refine ak.bool ?_
  rw[TF,show((((e.counts.length:Int) !=p.states.length)||decide (e.value<0))||decide (e.value>=max 1 (p.values.length:Int)))=true from h1]; rfl
 conv=>whnf
 refine aC.same [2,3] (fun i:Nat=>[(5,.int i)]) (fun i=>i<=e.counts.length/\(e.counts.take i).all Fq=true) (fun i=>e.counts.length-i) 0 rfl (by decide) rfl (fun _=>rfl) ⟨by omega,by simp⟩ ⟨⟨_,rfl,rfl⟩,trivial⟩ ?_
 conv=>whnf
 refine⟨rfl,?_⟩
 rintro i ⟨hi,hall⟩
 conv=>whnf
 refine⟨fun h3=>?_,fun h3=>?_⟩
 ·have hi':i<e.counts.length:=by simpa using h3
  conv=>whnf
  repeat(refine VC.mk (by first|exact id|(intro h; rw[h]; rfl)|(intro h; (repeat' apply And.intro)<;>first|exact h|omega|(simp only[Rw.kK]; omega)|(simp only[Rw.rng]; omega))|(simp only[Rw.rng] at *; omega)) ?_; conv=>whnf)
  refine⟨fun h4=>?_,fun h4=>?_⟩
  ·conv=>whnf
   refine ak.bool ?_
   replace h4:(decide (e.counts.getD i 0<0)||decide (1048576<e.counts.getD i 0))=true:=h4
   rw[Ib] at h4
   rw[TF,jJ (d:=0) hi' (by simpa using h4)]; simp
  ·conv=>whnf
   refine .mk (by simp only[okI] at *; omega) ?_
   conv=>whnf
   replace h4:(decide (e.counts.getD i 0<0)||decide (1048576<e.counts.getD i 0))=false:=h4
   rw[Ib] at h4
   refine⟨i+1,⟨by omega,?_⟩,by omega,⟨⟨_,rfl,rfl⟩,trivial⟩,?_,rfl⟩
   ·rw[iV (d:=0) hi' hall]; simpa using h4
   ·repeat' (first|exact trivial|exact⟨_,rfl,rfl⟩|constructor)
 ·have hi':e.counts.length<=i:=by simpa using h3
  rw[List.take_of_length_le hi'] at hall
  conv=>whnf
  refine ak.bool ?_
  rw[TF,hall,show((((e.counts.length:Int) !=p.states.length)||decide (e.value<0))||decide (e.value>=max 1 (p.values.length:Int)))=false from h1]; rfl
theorem S.mV(e:Elem)(hl:e.counts.length<2^40):aj Tryz.prog 74 [.dat (.elem e)] (.int (dK e)):=by
 refine aj.of Bd.mV (by simp) rfl rfl ?_
 conv=>whnf
 refine⟨fun h1=>?_,fun h1=>?_⟩
 ·have h:6<e.counts.length:=by
   have:(6:Int)<e.counts.length:=of_decide_eq_true h1
   omega
  conv=>whnf
  exact ak.int (by rw[dK,if_pos h])
 have h: ¬ 6<e.counts.length:=by
  have: ¬ (6:Int)<e.counts.length:=of_decide_eq_false h1
  omega
 conv=>whnf
 refine aC.same [1] (fun i:Nat=>[(4,.int i),(3,.int (e.counts.take i).sum)]) (fun i=>i<=e.counts.length/\(e.counts.take i).all Fq=true) (fun i=>e.counts.length-i) 0 rfl (by decide) rfl (fun _=>rfl) ⟨by omega,by simp⟩ ⟨⟨_,rfl,rfl⟩,⟨_,rfl,rfl⟩,trivial⟩ ?_
 conv=>whnf
 refine⟨rfl,?_⟩
 rintro i ⟨hi,hall⟩
 have hb:=Ba hall
 have hb':((e.counts.take i).length:Int)<=6:=by simp; omega
 conv=>whnf
 refine⟨fun h3=>?_,fun h3=>?_⟩
 ·have hi':i<e.counts.length:=by simpa using h3
  have hs:=Pm hi'
  conv=>whnf
  repeat(refine VC.mk (by first|exact id|(intro h; rw[h]; rfl)|(intro h; (repeat' apply And.intro)<;>first|exact h|omega|(simp only[Rw.kK]; omega)|(simp only[Rw.rng]; omega))|(simp only[Rw.rng] at *; omega)) ?_; conv=>whnf)
  refine⟨fun h4=>?_,fun h4=>?_⟩
  ·conv=>whnf
   replace h4:(decide (e.counts.getD i 0<0)||decide (1048576<e.counts.getD i 0))=true:=h4
   rw[Ib] at h4
   exact ak.int (by rw[dK,if_neg h,jJ (d:=0) hi' (by simpa using h4)]; rfl)
  ·replace h4:(decide (e.counts.getD i 0<0)||decide (1048576<e.counts.getD i 0))=false:=h4
   rw[Ib] at h4
   have h4':Fq (e.counts.getD i 0)=true:=by simpa using h4
   have abp:(e.counts.take (i+1)).all Fq=true:=by rw[iV (d:=0) hi' hall]; exact h4'
   have hc:=Ba abp
   have hc':((e.counts.take (i+1)).length:Int)<=6:=by simp; omega
   conv=>whnf
   repeat(refine VC.mk (by first|(simp only[okI,Int.toNat_natCast] at *; rw[<- hs]; omega)|(simp only[okI,Rw.rng] at *; omega)) ?_; conv=>whnf)
   refine⟨i+1,⟨by omega,abp⟩,by omega,⟨⟨_,rfl,rfl⟩,⟨_,rfl,?_⟩,trivial⟩,?_,rfl⟩
   ·rw[hs]; simp[V.aH,su]
   ·repeat' (first|exact trivial|exact⟨_,rfl,rfl⟩|constructor)
 ·have hi':e.counts.length<=i:=by simpa using h3
  rw[List.take_of_length_le hi'] at hall
  rw[List.take_of_length_le hi']
  conv=>whnf
  exact ak.int (by rw[dK,if_neg h,if_pos hall])
end Go.Proofs.YtifbibbicplneaaGreatDoor
