/-
 The two programs' rules for a protocol's rules say the same. No condition.
-/
import Derived.Test.YtkomllaebngbfaaGreatDoorRa
import Derived.Test.YtkomllaebngbfaaGreatDoorLg
namespace Go.Proofs.YtkomllaebngbfaaGreatDoor
open Go.Ab Go.Proofs
theorem vK{x n:Int}:(!(iJ x 0 (n-1)))=oV x n:=by rw[oz,Bool.not_not]
theorem vals_eq(p:aN)(r:Rule):zW p r=((decide (r.read< -1)||decide (r.read>=p.values.length))||(decide (r.write< -1)||decide (r.write>=p.values.length))):=by
 simp only[zW,vK,oV]
 rw[Bool.eq_iff_iff]; simp; omega
theorem Z5(a b:Bool)(v:Int)(r:List Int)(h:v≠0):bF (fE (a||b) v::r)=bF (fE a v::fE b v::r):=by
 cases a<;>cases b<;>simp[fE,bF,h]
theorem OE(p:aN)(l:List Ad)(r:List Int):bF (xw p l::r)=bF (kJ p l::fE (decide ((l.length:Int)>2)) 4::r):=by
 by_cases h:kJ p l=0
 ·rw[show xw p l=fE (decide ((l.length:Int)>2)) 4 from if_pos h,h]; rfl
 ·rw[show xw p l=kJ p l from if_neg h,fN h,fN h]
theorem Nh{c d:Bool}:(bif c then true else d)=(c||d):=by cases c<;>rfl
theorem len_nil{α:Type}{l:List α}(h:decide ((l.length:Int)>0)=false):l=[]:=by
 cases l with
 |nil=>rfl
 |cons a r=>simp at h
theorem Lu{r:Rule}{t:Int}(h:kS r t=false) :
  (r.kind≠1->r.guards=[]/\r.ex=[]/\r.all=[]/\r.send=[])/\(r.kind≠1->r.kind≠2->r.kind≠3->r.read= -1/\r.write= -1) /\
  (r.kind≠3->r.response=[])/\(r.kind≠5->r.direction=0)/\(r.kind≠4->r.pos=0/\r.left=[]/\r.right=[])/\(¬(r.kind=4/\t=4)->r.parent=[]):=by
 simp only[kS,Nh,Bool.or_eq_false_iff] at h
 obtain⟨h1,h2,h3,⟨h4,h5⟩,h6,h7⟩:=h
 refine⟨fun k=>?_,fun k1 k2 k3=>?_,fun k=>?_,fun k=>?_,fun k=>?_,fun k=>?_⟩
 ·simp only[beq_eq_false_iff_ne.2 k,Bool.not_false,Bool.true_and,Bool.or_eq_false_iff] at h1
  exact⟨len_nil h1.1.1.1,len_nil h1.1.1.2,len_nil h1.1.2,len_nil h1.2⟩
 ·simp only[beq_eq_false_iff_ne.2 k1,beq_eq_false_iff_ne.2 k2,beq_eq_false_iff_ne.2 k3,Bool.not_false,Bool.true_and,Bool.or_eq_false_iff] at h2
  exact⟨RZ h2.1,RZ h2.2⟩
 ·simp only[beq_eq_false_iff_ne.2 k,Bool.not_false,Bool.true_and] at h4
  exact len_nil h4
 ·simp only[beq_eq_false_iff_ne.2 k,Bool.not_false,Bool.true_and] at h5
  exact RZ h5
 ·simp only[beq_eq_false_iff_ne.2 k,Bool.not_false,Bool.true_and,Bool.or_eq_false_iff] at h6
  exact⟨RZ h6.1.1,len_nil h6.1.2,len_nil h6.2⟩
 ·refine len_nil ?_
  rw[Bool.and_eq_false_iff] at h7
  rcases h7 with h7|h7
  ·exact h7
  ·simp only[Bool.not_eq_false',Bool.and_eq_true,beq_iff_eq] at h7
   exact absurd h7 k
theorem kind_eq{r:Rule}{t:Int}:((!(iJ r.kind 1 5)||(decide (r.kind<=3) !=(t==1)))||kS r t)=(!(sQ r.kind t)||lq r t):=by
 by_cases hk:1<=r.kind/\r.kind<=5
 ·rw[uX hk]
  congr 1
  have hk':r.kind=1\/r.kind=2\/r.kind=3\/r.kind=4\/r.kind=5:=by omega
  rcases hk' with e|e|e|e|e<;>rw[e]<;>cases ht:(t==1)<;>simp[iJ,sQ,ht]
 ·have h1:iJ r.kind 1 5=false:=by rw[iJ,Bool.and_eq_false_iff]; simp; omega
  have h2:sQ r.kind t=false:=by
   have:r.kind≠1/\r.kind≠2/\r.kind≠3/\r.kind≠4/\r.kind≠5:=by omega
   obtain⟨a,b,c,d,e⟩:=this
   simp[sQ,a,b,c,d,e]
  rw[h1,h2]; rfl
theorem HY(p:aN)(r:Rule):(wB p r !=0)=(oV r.fr p.states.length||oV r.to p.states.length):=by
 simp only[wB,dD]
 cases oV r.fr p.states.length<;>cases oV r.to p.states.length<;>rfl
theorem aed(p:aN)(r:Rule)(h:(wB p r !=0)=true):wB p r=5:=by
 rw[HY] at h
 simp only[wB,dD]
 revert h
 cases oV r.fr p.states.length<;>cases oV r.to p.states.length<;>intro h<;>first|rfl|cases h
theorem Bh(n:Int):jK [] n=0:=rfl
theorem Xi(x:Int):bF [x,0,0,0,0,0,0]=bF [x]:=by
 simp only[bF]; simp
theorem CV{a:Int}{X Y:List Int}(h:bF X=bF Y):bF (a::X)=bF (a::Y):=by simp only[bF,h]
theorem Ug(x:Int):bF [x,0,0,0,0,0,0,0]=bF [x]:=by
 simp only[bF]; simp
theorem Uh(x:Int):bF [x,0,0]=bF [x]:=by
 simp only[bF]; simp
theorem Ko(p:aN)(r:Rule):bF [fE (zW p r) 5,0,0,0,0,0,0,0]=bF [jZ p r.read,jZ p r.write]:=by
 rw[vals_eq,Z5 _ _ _ _ (by decide)]
 exact CV (Ug _)
theorem Z7(p:aN)(i:Nat):yV p i=iC p i:=by
 simp only[yV,iC,qY,o8]
 generalize p.rules.getD i default=r
 cases hv:validName r.name with
 |false=>rfl
 |true =>
 cases ha:(p.rules.take i).any (fun x=>x.name==r.name) with
 |true=>rfl
 |false =>
 simp only[G8,kind_eq,Bool.not_true,Bool.or_false,cond_false]
 cases hk:(!(sQ r.kind p.topology)||lq r p.topology) with
 |true=>rfl
 |false =>
 have hk2:=hk
 rw[<- kind_eq,Bool.or_eq_false_iff,Bool.or_eq_false_iff,Bool.not_eq_false'] at hk2
 obtain⟨⟨k1,_⟩,k2⟩:=hk2
 obtain⟨u1,u2,u3,u4,u5,u6⟩:=Lu k2
 have hk':r.kind=1\/r.kind=2\/r.kind=3\/r.kind=4\/r.kind=5:=by
  simp only[iJ,Bool.and_eq_true,decide_eq_true_eq] at k1; omega
 cases he:(wB p r !=0) with
 |true =>
  rw[aed p r he]
  rw[HY] at he
  simp only[G7,vK,he]; rfl
 |false =>
 rw[HY] at he
 simp only[G7,vK,he,Bool.false_or,cond_false]
 rcases hk' with e|e|e|e|e
 ·have a5:=u5 (by omega)
  have m4:DJ p r=false:=by simp[DJ,e]
  have d1:DK p r=false:=by simp[DK,e]
  have d2:DL p r=false:=by simp[DL,e]
  simp only[iM,m4,d1,d2,a5.2.1,a5.2.2,u6 (by omega),e,Bh,Int.reduceBEq,Bool.or_self,Bool.false_and,cond_false,cond_true]
  rw[OE]
  refine CV (CV (CV (CV ?_)))
  rw[vals_eq,Z5 _ _ _ _ (by decide)]
  refine CV (CV ?_)
  exact Xi _
 ·obtain⟨g1,g2,g3,g4⟩:=u1 (by omega)
  have a5:=u5 (by omega)
  have m4:DJ p r=false:=by simp[DJ,e]
  have d1:DK p r=false:=by simp[DK,e]
  have d2:DL p r=false:=by simp[DL,e]
  simp only[iM,m4,d1,d2,g1,g2,g3,g4,a5.2.1,a5.2.2,u6 (by omega),e,Bh,Int.reduceBEq,Bool.or_false,Bool.true_and,cond_false,cond_true,dD]
  cases oV r.gQ p.states.length with
  |true=>rfl
  |false =>
   cases oV r.BU p.states.length with
   |true=>rfl
   |false=>exact Ko p r
 ·obtain⟨g1,g2,g3,g4⟩:=u1 (by omega)
  have a5:=u5 (by omega)
  have m4:DJ p r=false:=by simp[DJ,e]
  have d1:DK p r=false:=by simp[DK,e]
  have d2:DL p r=false:=by simp[DL,e]
  simp only[iM,m4,d1,d2,g1,g2,g3,g4,a5.2.1,a5.2.2,u6 (by omega),e,Bh,Int.reduceBEq,Bool.or_self,Bool.false_and,cond_false,cond_true,Eh]
  cases ((r.response.length:Int) !=p.states.length) with
  |true=>rfl
  |false =>
   simp only[cond_false]
   by_cases hz:pK r.response p.states.length=0
   ·rw[hz]; exact Ko p r
   ·rw[show(pK r.response p.states.length !=0)=true by simpa using hz,fN hz]; rfl
 ·obtain⟨g1,g2,g3,g4⟩:=u1 (by omega)
  obtain⟨v1,v2⟩:=u2 (by omega) (by omega) (by omega)
  have m4:DJ p r=Z8 p r:=by
   simp only[DJ,Z8,e,oh]; rfl
  have d1:DK p r=false:=by simp[DK,e]
  have d2:DL p r=false:=by simp[DL,e]
  have vv:zW p r=false:=by simp[zW,v1,v2]
  simp only[iM,m4,d1,d2,vv,g1,g2,g3,g4,e,Bh,Int.reduceBEq,Bool.or_self,Bool.false_and,cond_false,cond_true]
  exact CV (CV (CV (Uh _)))
 ·obtain⟨g1,g2,g3,g4⟩:=u1 (by omega)
  obtain⟨v1,v2⟩:=u2 (by omega) (by omega) (by omega)
  have a5:=u5 (by omega)
  have m4:DJ p r=false:=by simp[DJ,e]
  have vv:zW p r=false:=by simp[zW,v1,v2]
  have d1:DK p r=((p.topology==4)&&(decide (r.direction<3)||decide (r.direction>4))):=by
   simp only[DK,e,oh]; rfl
  have d2:DL p r=(!(p.topology==4)&&(decide (r.direction<1)||decide (r.direction>2))):=by
   simp only[DL,e,oh]; rfl
  simp only[iM,m4,d1,d2,vv,g1,g2,g3,g4,a5.2.1,a5.2.2,u6 (by omega),e,Bh,Int.reduceBEq,Bool.or_true,Bool.true_and,cond_false,dD]
  cases oV r.gQ p.states.length with
  |true=>cases (p.topology==4)<;>rfl
  |false =>
   cases oV r.BU p.states.length with
   |true=>cases (p.topology==4)<;>rfl
   |false =>
    cases (p.topology==4) with
    |true=>cases (decide (r.direction<3)||decide (r.direction>4))<;>rfl
    |false=>cases (decide (r.direction<1)||decide (r.direction>2))<;>rfl
theorem Z9{p:aN}:(!(iJ p.topology 1 4)|| !(iJ p.fault 0 3))=tZ p:=by
 simp only[oh,tZ,Bool.or_assoc]
theorem S.Xj(p:aN)(i:Nat)(hi:i<p.rules.length)(hp:dH p):aj Tryz.prog 138 [.dat (.iY p),.int i] (.int (iC p i)):=by
 rw[<- Z7]; exact S.wz p i hi hp
theorem afx{h:Hz}{j:Nat}{Z:Nat->Prop}{l:List Str}(hz:Z j)(q:h.get j=some (.row 9 0 (.strs l) [])):T.sub Z h.aA (V.row 0 false (.strs l)).aH (V.own j).aH:=by
 show T.sub Z h.aA (.sl 0 false (l.map eS)) (.own j)
 simp only[T.sub]
 refine⟨trivial,hz,?_,by decide,9,?_⟩
 ·rw[gu]; intro t ht; obtain⟨x,_,rfl⟩:=List.mem_map.1 ht; rfl
 ·have:=aX q
  rw[this]; simp[OV.aG,Rw.bg,V.bg]
theorem S.kX(p:aN)(hp:dH p):aj Tryz.prog 91 [.dat (.iY p)] (.int (bY p)):=by
 have g1:=hp.states; have g2:=hp.messages; have g3:=hp.values; have g4:=hp.dA; have g5:=hp.initial; have g6:=hp.leader; have g7:=hp.rules
 refine aj.of Bd.kX (by simp) rfl rfl ?_
 conv=>whnf
 refine ah.pure (S.iG p.name) rfl ?_
 conv=>whnf
 refine⟨fun h1=>?_,fun h1=>?_⟩
 ·conv=>whnf
  exact ak.int (by rw[bY,h1]; rfl)
 conv=>whnf
 refine ah.pure (S.aT p.topology 1 4) rfl ?_
 conv=>whnf
 repeat(refine VC.mk id ?_; conv=>whnf)
 refine ah.fD (fun _=>S.aT p.fault 0 3) rfl ?_
 conv=>whnf
 repeat(refine VC.mk (by first|exact id|(intro h; rw[h]; rfl)) ?_; conv=>whnf)
 refine⟨fun h2=>?_,fun h2=>?_⟩
 ·conv=>whnf
  rw[Z9] at h2
  exact ak.int (by rw[bY,h1,h2]; rfl)
 rw[Z9] at h2
 conv=>whnf
 refine⟨fun h3=>?_,fun h3=>?_⟩
 ·conv=>whnf
  exact ak.int (by rw[bY,h1,h2,show((p.states.length:Int)==0)=true from h3]; rfl)
 replace h3:((p.states.length:Int)==0)=false:=h3
 conv=>whnf
 repeat(refine VC.mk (by first|exact id|(intro h; rw[h]; rfl)) ?_; conv=>whnf)
 refine⟨fun h4=>?_,fun h4=>?_⟩
 ·conv=>whnf
  exact ak.int (by rw[bY,h1,h2,h3,show vJ p=true from h4]; rfl)
 replace h4:vJ p=false:=h4
 have h0:0<p.states.length:=by
  rcases Nat.eq_zero_or_pos p.states.length with e|e
  ·rw[e] at h3; exact absurd h3 (by decide)
  ·exact e
 have hlen:(allNames p).length<2^30:=by simp only[allNames,List.length_append]; omega
 conv=>whnf
 repeat(refine VC.mk (by simp only[oG,oO,Rw.len,List.length_append]; omega) ?_; conv=>whnf)
 refine aK.fz 3 57 0 (.strs (allNames p)) rfl rfl (afx rfl rfl) ?_
 conv=>whnf
 refine aK.same [1,3] (fun i:Nat=>[(4,.int i)]) (fun i=>i<=(allNames p).length/\(List.range i).any (OG (allNames p))=false) (fun i=>(allNames p).length-i) 0 rfl (by decide) rfl (fun _=>rfl) ⟨Nat.zero_le _,rfl⟩ ⟨⟨_,rfl,rfl⟩,trivial⟩ ?_
 conv=>whnf
 refine⟨rfl,?_⟩
 rintro i ⟨hi,hall⟩
 conv=>whnf
 refine⟨fun h5=>?_,fun h5=>?_⟩
 ·have hi':i<(allNames p).length:=by have:(i:Int)<((allNames p).length:Int):=of_decide_eq_true h5; omega
  conv=>whnf
  refine .mk (by simp only[Rw.rng] at *; omega) ?_
  conv=>whnf
  refine ah.pure (S.iG ((allNames p).getD i [])) rfl ?_
  conv=>whnf
  repeat(refine VC.mk (by first|exact id|exact fun h=>⟨h,h⟩|(intro h; (repeat' apply And.intro)<;>first|exact h|omega|(simp only[Rw.oK]; omega)|(simp only[Rw.rng]; omega))) ?_; conv=>whnf)
  refine ah.fD (fun _=>S.lU ((allNames p).take i) ((allNames p).getD i []) _ (by rw[List.length_take]; omega)) rfl ?_
  conv=>whnf
  refine .mk (by intro h; rw[h]; rfl) ?_
  conv=>whnf
  refine⟨fun h6=>?_,fun h6=>?_⟩
  ·conv=>whnf
   refine ak.int ?_
   rw[bY,h1,h2,h3,h4,show zN p=2 by rw[zN,qh.2 ⟨i,hi',h6⟩]; rfl]; rfl
  ·conv=>whnf
   refine .mk (by simp only[okI] at *; omega) ?_
   conv=>whnf
   refine⟨i+1,⟨by omega,?_⟩,by omega,⟨⟨_,rfl,rfl⟩,trivial⟩,?_,rfl⟩
   ·rw[List.range_succ,List.any_append,hall]
    simp only[List.any_cons,List.any_nil,Bool.or_false,Bool.false_or]; exact h6
   ·repeat' (first|exact trivial|exact⟨_,rfl,rfl⟩|constructor)
 have hi':(allNames p).length<=i:=by have: ¬ ((i:Int)<((allNames p).length:Int)):=of_decide_eq_false h5; omega
 have e:i=(allNames p).length:=Nat.le_antisymm hi hi'
 subst e
 have h5:zN p=0:=by rw[zN,hall]; rfl
 clear hi hall hi' hlen
 conv=>whnf
 repeat(refine VC.mk (by first|exact id|(intro h; rw[h]; rfl)|(intro h; simp[h]; done)|(intro h; simp_all; done)) ?_; conv=>whnf)
 refine⟨fun h6=>?_,fun h6=>?_⟩
 ·conv=>whnf
  exact ak.int (by rw[bY,h1,h2,h3,h4,h5,show Q9 p=true from h6]; rfl)
 replace h6:Q9 p=false:=h6
 conv=>whnf
 refine aK.same [1] (fun i:Nat=>[(5,.int i)]) (fun i=>i<=p.dA.length/\(p.dA.take i).any (fun l=> !(QW l))=false) (fun i=>p.dA.length-i) 0 rfl (by decide) rfl (fun _=>rfl) ⟨by omega,by simp⟩ ⟨⟨_,rfl,rfl⟩,trivial⟩ ?_
 conv=>whnf
 refine⟨rfl,?_⟩
 rintro i ⟨hi,hall⟩
 conv=>whnf
 refine⟨fun h7=>?_,fun h7=>?_⟩
 ·have hi':i<p.dA.length:=by simpa using h7
  conv=>whnf
  refine .mk (by simp only[Rw.rng] at *; omega) ?_
  conv=>whnf
  refine ah.pure (S.uz (p.dA.getD i default)) rfl ?_
  conv=>whnf
  refine⟨fun h8=>?_,fun h8=>?_⟩
  ·conv=>whnf
   exact ak.int (by rw[bY,h1,h2,h3,h4,h5,h6,iZ (d:=default) hi' h8]; rfl)
  ·conv=>whnf
   refine .mk (by simp only[okI] at *; omega) ?_
   conv=>whnf
   refine⟨i+1,⟨by omega,?_⟩,by omega,⟨⟨_,rfl,rfl⟩,trivial⟩,?_,rfl⟩
   ·rw[kT (d:=default) hi' hall]; exact h8
   ·repeat' (first|exact trivial|exact⟨_,rfl,rfl⟩|constructor)
 have hi':p.dA.length<=i:=by simpa using h7
 rw[List.take_of_length_le hi'] at hall
 clear hi hi' h7
 conv=>whnf
 refine ah.pure (S.iK p.initial p.states.length false (by omega) ⟨by omega,by omega⟩) rfl ?_
 conv=>whnf
 refine⟨fun h7=>?_,fun h7=>?_⟩
 ·replace h7:=Q8 h7
  have:xZ p=jK p.initial p.states.length:=fN h7
  conv=>whnf
  exact ak.int (by rw[bY,h1,h2,h3,h4,h5,h6,hall,this,show(jK p.initial p.states.length !=0)=true by simpa using h7]; rfl)
 replace h7:=I5 h7
 conv=>whnf
 refine⟨fun h8=>?_,fun h8=>?_⟩
 ·replace h8:((p.initial.length:Int)==0)=true:=h8
  have:xZ p=1:=by rw[xZ,h7,h8]; rfl
  conv=>whnf
  exact ak.int (by rw[bY,h1,h2,h3,h4,h5,h6,hall,this]; rfl)
 replace h8:((p.initial.length:Int)==0)=false:=h8
 conv=>whnf
 refine ah.pure (S.iK p.leader p.states.length false (by omega) ⟨by omega,by omega⟩) rfl ?_
 conv=>whnf
 refine⟨fun h9=>?_,fun h9=>?_⟩
 ·replace h9:=Q8 h9
  have:xZ p=jK p.leader p.states.length:=by rw[xZ,h7,h8]; exact fN h9
  conv=>whnf
  exact ak.int (by rw[bY,h1,h2,h3,h4,h5,h6,hall,this,show(jK p.leader p.states.length !=0)=true by simpa using h9]; rfl)
 replace h9:=I5 h9
 have h10:xZ p=0:=by rw[xZ,h7,h8,h9]; rfl
 conv=>whnf
 refine aK.same [1] (fun i:Nat=>[(8,.int i)]) (fun i=>i<=p.rules.length/\C9 p=bF (((List.range p.rules.length).drop i).map (iC p))) (fun i=>p.rules.length-i) 0 rfl (by decide) rfl (fun _=>rfl) ⟨by omega,by simp[C9]⟩ ⟨⟨_,rfl,rfl⟩,trivial⟩ ?_
 conv=>whnf
 refine⟨rfl,?_⟩
 rintro i ⟨hi,hr⟩
 conv=>whnf
 refine⟨fun h11=>?_,fun h11=>?_⟩
 ·have hi':i<p.rules.length:=by simpa using h11
  rw[Kq hi'] at hr
  simp only[bF] at hr
  conv=>whnf
  refine ah.pure (S.Xj p i hi' hp) rfl ?_
  conv=>whnf
  refine⟨fun h12=>?_,fun h12=>?_⟩
  ·conv=>whnf
   have X7:iC p i≠0:=Q8 h12
   rw[if_neg X7] at hr
   exact ak.int (by rw[bY,h1,h2,h3,h4,h5,h6,hall,h10,hr,show(iC p i !=0)=true from h12]; rfl)
  ·conv=>whnf
   refine .mk (by simp only[okI] at *; omega) ?_
   conv=>whnf
   have X7:iC p i=0:=I5 h12
   rw[if_pos X7] at hr
   refine⟨i+1,⟨by omega,hr⟩,by omega,⟨⟨_,rfl,rfl⟩,trivial⟩,?_,rfl⟩
   repeat' (first|exact trivial|exact⟨_,rfl,rfl⟩|constructor)
 have hi':p.rules.length<=i:=by simpa using h11
 rw[List.drop_eq_nil_of_le (by simpa using hi')] at hr
 conv=>whnf
 refine ah.pure (S.mO p hp) rfl ?_
 conv=>whnf
 refine⟨fun h12=>?_,fun h12=>?_⟩
 ·conv=>whnf
  exact ak.int (by rw[bY,h1,h2,h3,h4,h5,h6,hall,h10,hr,show decide (((yT p.rules).length:Int)>3)=true from h12]; rfl)
 ·conv=>whnf
  exact ak.int (by rw[bY,h1,h2,h3,h4,h5,h6,hall,h10,hr,show decide (((yT p.rules).length:Int)>3)=false from h12]; rfl)
def Rf(p:aN)(i:Nat):V:=.agg [.bool (((p.topology==1)&&((p.values.length:Int)==0))&&(p.rules.take i).foldl Rh true),.bool (rQ p&& !((p.rules.take i).foldl Xk false)),.bool ((p.topology==2)||(p.topology==3)),.bool (p.topology==4),.bool (rQ p&&decide ((p.states.length:Int)<=4))]
def badR(r:Rule):Bool:=r.kind !=1||decide (r.fr>=r.to)||decide ((r.ex.length:Int)>0)||decide ((r.all.length:Int)>0)
theorem abQ{acc:Bool}{r:Rule}(h:badR r=true):Rh acc r=false:=by
 simp only[badR,Bool.or_eq_true,bne_iff_ne,decide_eq_true_eq] at h
 simp only[Rh]
 rw[Bool.eq_false_iff]; intro q
 simp only[Bool.and_eq_true,beq_iff_eq,decide_eq_true_eq] at q
 omega
theorem aee{acc:Bool}{r:Rule}(h:badR r=false):Rh acc r=acc:=by
 simp only[badR,Bool.or_eq_false_iff,bne_eq_false_iff_eq,decide_eq_false_iff_not] at h
 obtain⟨⟨⟨a,b⟩,c⟩,d⟩:=h
 simp only[Rh]
 rw[show(r.kind==1)=true from beq_iff_eq.2 a,decide_eq_true (by omega),show((r.ex.length:Int)==0)=true from beq_iff_eq.2 (by omega),show((r.all.length:Int)==0)=true from beq_iff_eq.2 (by omega)]
 simp
theorem agj(p:aN):Rf p 0= .agg [.bool ((p.topology==1)&&((p.values.length:Int)==0)),.bool (rQ p),.bool ((p.topology==2)||(p.topology==3)),.bool (p.topology==4),.bool (rQ p&&decide ((p.states.length:Int)<=4))]:=by
 simp[Rf]
theorem Fa(p:aN){i:Nat}(hi:i<p.rules.length):Rf p (i+1) =
  .agg [.bool (bif badR (p.rules.getD i default) then false else((p.topology==1)&&((p.values.length:Int)==0))&&(p.rules.take i).foldl Rh true),
   .bool (bif decide (((p.rules.getD i default).all.length:Int)>0) then false else rQ p&& !((p.rules.take i).foldl Xk false)),.bool ((p.topology==2)||(p.topology==3)),.bool (p.topology==4),.bool (rQ p&&decide ((p.states.length:Int)<=4))]:=by
 simp only[Rf,Bg (d:=default) hi]
 cases hb:badR (p.rules.getD i default) with
 |true =>
  rw[abQ hb,Xk]
  cases decide (((p.rules.getD i default).all.length:Int)>0)<;>simp
 |false =>
  rw[aee hb,Xk]
  cases decide (((p.rules.getD i default).all.length:Int)>0)<;>simp
theorem S.kR(p:aN)(hp:dH p):aj Tryz.prog 40 [.dat (.iY p)] (Gs p):=by
 have g1:=hp.states; have g2:=hp.messages; have g3:=hp.values; have g4:=hp.dA; have g7:=hp.rules
 refine aj.of Bd.kR (by simp) rfl rfl ?_
 conv=>whnf
 refine ah.pure (S.kX p hp) rfl ?_
 conv=>whnf
 refine⟨fun h1=>?_,fun h1=>?_⟩
 ·conv=>whnf
  refine ak.eqv ?_
  rw[Gs,h1]; rfl
 have h1':bY p=0:=I5 h1
 conv=>whnf
 repeat(refine VC.mk (by first|exact id|(intro h; rw[h]; rfl)) ?_; conv=>whnf)
 refine aK.objs 100 [1,2,7] (fun i:Nat=>[(8,.int i)]) (fun i=>[(0,.box 27 11 (.dat (.iY p))),(1,.box 62 6 (afy KY)),(58,.box 62 6 (Rf p i))]) (fun i=>i<=p.rules.length) (fun i=>p.rules.length-i) 0 [0,1,58] rfl (by decide) (fun _=>rfl) (Nat.zero_le _) ?_ ?_ ?_
 ·exact⟨⟨_,rfl,.eq rfl⟩,trivial⟩
 ·refine⟨⟨rfl,nofun,rfl,rfl,rfl,_,rfl,rfl,rfl,fM.of_eq rfl⟩,⟨rfl,nofun,rfl,rfl,rfl,_,rfl,rfl,rfl,fM.of_eq rfl⟩,⟨rfl,nofun,rfl,rfl,rfl,_,rfl,rfl,rfl,fM.of_eq ?_⟩,trivial⟩
  rw[agj]; rfl
 conv=>whnf
 refine⟨⟨⟨_,rfl,.eq rfl⟩,⟨_,rfl,.eq rfl⟩,⟨_,rfl,.eq rfl⟩,trivial⟩,rfl,?_⟩
 rintro i hi
 have g8:=hp.rule i
 have g9:=g8.ex; have g10:=g8.all
 conv=>whnf
 refine⟨fun h3=>?_,fun h3=>?_⟩
 ·have hi':i<p.rules.length:=by simpa using h3
  conv=>whnf
  repeat(refine VC.mk (by first|exact id|exact fun h=>⟨h,h⟩|(intro h; rw[h]; rfl)|(simp only[Rw.rng] at *; omega)) ?_; conv=>whnf)
  refine⟨fun h4=>?_,fun h4=>?_⟩
  ·replace h4:badR (p.rules.getD i default)=true:=h4
   conv=>whnf
   refine⟨fun h5=>?_,fun h5=>?_⟩
   ·replace h5:decide (((p.rules.getD i default).all.length:Int)>0)=true:=h5
    conv=>whnf
    refine .mk (by simp only[okI] at *; omega) ?_
    conv=>whnf
    refine⟨i+1,[0,1,58],by omega,by omega,⟨⟨_,rfl,.eq rfl⟩,trivial⟩,⟨⟨_,rfl,.eq rfl⟩,⟨_,rfl,.eq rfl⟩,⟨_,rfl,.eq rfl⟩,trivial⟩,⟨rfl,nofun,rfl,rfl,rfl,_,rfl,rfl,rfl,fM.of_eq rfl⟩,⟨rfl,nofun,rfl,rfl,rfl,_,rfl,rfl,rfl,fM.of_eq rfl⟩,⟨rfl,nofun,rfl,rfl,rfl,_,rfl,rfl,rfl,fM.of_eq ?_⟩,trivial⟩
    rw[Fa p hi',h4,h5]; rfl
   ·replace h5:decide (((p.rules.getD i default).all.length:Int)>0)=false:=h5
    conv=>whnf
    refine .mk (by simp only[okI] at *; omega) ?_
    conv=>whnf
    refine⟨i+1,[0,1,58],by omega,by omega,⟨⟨_,rfl,.eq rfl⟩,trivial⟩,⟨⟨_,rfl,.eq rfl⟩,⟨_,rfl,.eq rfl⟩,⟨_,rfl,.eq rfl⟩,trivial⟩,⟨rfl,nofun,rfl,rfl,rfl,_,rfl,rfl,rfl,fM.of_eq rfl⟩,⟨rfl,nofun,rfl,rfl,rfl,_,rfl,rfl,rfl,fM.of_eq rfl⟩,⟨rfl,nofun,rfl,rfl,rfl,_,rfl,rfl,rfl,fM.of_eq ?_⟩,trivial⟩
    rw[Fa p hi',h4,h5]; rfl
  ·replace h4:badR (p.rules.getD i default)=false:=h4
   conv=>whnf
   refine⟨fun h5=>?_,fun h5=>?_⟩
   ·replace h5:decide (((p.rules.getD i default).all.length:Int)>0)=true:=h5
    conv=>whnf
    refine .mk (by simp only[okI] at *; omega) ?_
    conv=>whnf
    refine⟨i+1,[0,1,58],by omega,by omega,⟨⟨_,rfl,.eq rfl⟩,trivial⟩,⟨⟨_,rfl,.eq rfl⟩,⟨_,rfl,.eq rfl⟩,⟨_,rfl,.eq rfl⟩,trivial⟩,⟨rfl,nofun,rfl,rfl,rfl,_,rfl,rfl,rfl,fM.of_eq rfl⟩,⟨rfl,nofun,rfl,rfl,rfl,_,rfl,rfl,rfl,fM.of_eq rfl⟩,⟨rfl,nofun,rfl,rfl,rfl,_,rfl,rfl,rfl,fM.of_eq ?_⟩,trivial⟩
    rw[Fa p hi',h4,h5]; rfl
   ·replace h5:decide (((p.rules.getD i default).all.length:Int)>0)=false:=h5
    conv=>whnf
    refine .mk (by simp only[okI] at *; omega) ?_
    conv=>whnf
    refine⟨i+1,[0,1,58],by omega,by omega,⟨⟨_,rfl,.eq rfl⟩,trivial⟩,⟨⟨_,rfl,.eq rfl⟩,⟨_,rfl,.eq rfl⟩,⟨_,rfl,.eq rfl⟩,trivial⟩,⟨rfl,nofun,rfl,rfl,rfl,_,rfl,rfl,rfl,fM.of_eq rfl⟩,⟨rfl,nofun,rfl,rfl,rfl,_,rfl,rfl,rfl,fM.of_eq rfl⟩,⟨rfl,nofun,rfl,rfl,rfl,_,rfl,rfl,rfl,fM.of_eq ?_⟩,trivial⟩
    rw[Fa p hi',h4,h5]; rfl
 have hi':p.rules.length<=i:=by simpa using h3
 have e:i=p.rules.length:=Nat.le_antisymm hi hi'
 subst e
 conv=>whnf
 refine ak.eqv ?_
 rw[Gs,h1',nD]
 simp only[List.take_length]
 rfl
theorem Iw{x:Int}:(decide (x<0)||decide (1048576<x))= !(DW x):=by
 unfold DW; rw[Bool.eq_iff_iff]; simp
def MZ(p:aN):Int:=bif bY p !=0 then bY p else bif !(nD p).cover&& !(nD p).monadic then 7 else 0
def xP(p:aN)(e:Elem):Bool:=((((e.counts.length:Int) !=p.states.length)|| !(e.counts.all DW))||decide (e.value<0))||decide (e.value>=max 1 (p.values.length:Int))
def KZ(p:aN)(e:Elem):Int:=bif MZ p !=0 then MZ p else fE (xP p e) 1
theorem afz(p:aN):MZ p=bif ((bY p==0)&& !(bif bY p !=0 then KY else nD p).cover&& !(bif bY p !=0 then KY else nD p).monadic) then 7 else bY p:=by
 unfold MZ bne
 cases hz:bY p==0 with
 |true=>simp only[Bool.not_true,cond_false,Bool.true_and]; rw[show bY p=0 from beq_iff_eq.1 hz]
 |false=>rfl
theorem S.iO(p:aN)(hp:dH p):aj Tryz.prog 142 [.dat (.iY p)] (.int (MZ p)):=by
 refine aj.of Bd.iO (by simp) rfl rfl ?_
 conv=>whnf
 refine ah.pure (S.fU p hp) rfl ?_
 conv=>whnf
 repeat(refine VC.mk id ?_; conv=>whnf)
 refine⟨fun h1=>?_,fun h1=>?_⟩
 ·conv=>whnf
  exact ak.int (by rw[afz,h1]; rfl)
 ·conv=>whnf
  exact ak.int (by rw[afz,h1]; rfl)
theorem S.gW(p:aN)(e:Elem)(hp:dH p)(he:e.counts.length<2^30):aj Tryz.prog 143 [.dat (.iY p),.dat (.elem e)] (.int (fE (xP p e) 1)):=by
 have g1:=hp.states
 have g3:=hp.values
 refine aj.of Bd.gW (by simp) rfl rfl ?_
 conv=>whnf
 repeat(refine VC.mk id ?_; conv=>whnf)
 refine ah.fD (fun _=>S.jU e.counts false (by omega)) rfl ?_
 conv=>whnf
 repeat(refine VC.mk (by first|exact id|exact fun h=>⟨h,h⟩|(intro h; rw[h]; rfl)) ?_; conv=>whnf)
 refine⟨fun h1=>?_,fun h1=>?_⟩
 ·conv=>whnf
  exact ak.int (by rw[show xP p e=true from h1]; rfl)
 ·conv=>whnf
  exact ak.int (by rw[show xP p e=false from h1]; rfl)
theorem S.fF(p:aN)(e:Elem)(hp:dH p)(he:e.counts.length<2^30):aj Tryz.prog 96 [.dat (.iY p),.dat (.elem e)] (.int (KZ p e)):=by
 refine aj.of Bd.fF (by simp) rfl rfl ?_
 conv=>whnf
 refine ah.pure (S.iO p hp) rfl ?_
 conv=>whnf
 refine⟨fun h1=>?_,fun h1=>?_⟩
 ·conv=>whnf
  exact ak.int (by rw[KZ,h1]; rfl)
 ·conv=>whnf
  refine ah.pure (S.gW p e hp he) rfl ?_
  conv=>whnf
  exact ak.int (by rw[KZ,h1]; rfl)
theorem Ui(p:aN)(e:Elem):xP p e=(((((e.counts.length:Int) !=p.states.length)||decide (e.value<0))||decide (e.value>=max 1 (p.values.length:Int)))|| !(e.counts.all DW)):=by
 unfold xP
 cases ((e.counts.length:Int) !=p.states.length)<;>cases (e.counts.all DW)<;>cases decide (e.value<0)<;>cases decide (e.value>=max 1 (p.values.length:Int))<;>rfl
theorem S.sO(p:aN)(e:Elem)(hp:dH p)(he:e.counts.length<2^30):aj Tryz.prog 41 [.dat (.iY p),.dat (.elem e)] (.bool (!(xP p e))):=by
 have g1:=hp.states
 have g3:=hp.values
 refine aj.of Bd.sO (by simp) rfl rfl ?_
 conv=>whnf
 repeat(refine VC.mk (by first|exact id|exact fun h=>⟨h,h⟩|(intro h; rw[h]; rfl)) ?_; conv=>whnf)
 refine⟨fun h1=>?_,fun h1=>?_⟩
 ·conv=>whnf
  refine ak.bool ?_
  rw[Ui,show((((e.counts.length:Int) !=p.states.length)||decide (e.value<0))||decide (e.value>=max 1 (p.values.length:Int)))=true from h1]; rfl
 conv=>whnf
 refine aK.same [2,3] (fun i:Nat=>[(5,.int i)]) (fun i=>i<=e.counts.length/\(e.counts.take i).all DW=true) (fun i=>e.counts.length-i) 0 rfl (by decide) rfl (fun _=>rfl) ⟨by omega,by simp⟩ ⟨⟨_,rfl,rfl⟩,trivial⟩ ?_
 conv=>whnf
 refine⟨rfl,?_⟩
 rintro i ⟨hi,hall⟩
 conv=>whnf
 refine⟨fun h3=>?_,fun h3=>?_⟩
 ·have hi':i<e.counts.length:=by simpa using h3
  conv=>whnf
  repeat(refine VC.mk (by first|exact id|(intro h; rw[h]; rfl)|(intro h; (repeat' apply And.intro)<;>first|exact h|omega|(simp only[Rw.oK]; omega)|(simp only[Rw.rng]; omega))|(simp only[Rw.rng] at *; first|omega|(simp_all; done)|(simp_all; omega))) ?_; conv=>whnf)
  refine⟨fun h4=>?_,fun h4=>?_⟩
  ·conv=>whnf
   refine ak.bool ?_
   replace h4:(decide (e.counts.getD i 0<0)||decide (1048576<e.counts.getD i 0))=true:=h4
   rw[Iw] at h4
   rw[Ui,uV (d:=0) hi' (by simpa using h4)]; simp
  ·conv=>whnf
   refine .mk (by simp only[okI] at *; first|omega|(simp_all; done)|(simp_all; omega)) ?_
   conv=>whnf
   replace h4:(decide (e.counts.getD i 0<0)||decide (1048576<e.counts.getD i 0))=false:=h4
   rw[Iw] at h4
   refine⟨i+1,⟨by omega,?_⟩,by omega,⟨⟨_,rfl,rfl⟩,trivial⟩,?_,rfl⟩
   ·rw[xO (d:=0) hi' hall]; simpa using h4
   ·repeat' (first|exact trivial|exact⟨_,rfl,rfl⟩|constructor)
 ·have hi':e.counts.length<=i:=by simpa using h3
  rw[List.take_of_length_le hi'] at hall
  conv=>whnf
  refine ak.bool ?_
  rw[Ui,hall,show((((e.counts.length:Int) !=p.states.length)||decide (e.value<0))||decide (e.value>=max 1 (p.values.length:Int)))=false from h1]; rfl
theorem S.nZ(e:Elem)(hl:e.counts.length<2^40):aj Tryz.prog 42 [.dat (.elem e)] (.int (oN e)):=by
 refine aj.of Bd.nZ (by simp) rfl rfl ?_
 conv=>whnf
 refine⟨fun h1=>?_,fun h1=>?_⟩
 ·have h:6<e.counts.length:=by
   have:(6:Int)<e.counts.length:=of_decide_eq_true h1
   omega
  conv=>whnf
  exact ak.int (by rw[oN,if_pos h])
 have h: ¬ 6<e.counts.length:=by
  have: ¬ (6:Int)<e.counts.length:=of_decide_eq_false h1
  omega
 conv=>whnf
 refine aK.same [1] (fun i:Nat=>[(4,.int i),(3,.int (e.counts.take i).sum)]) (fun i=>i<=e.counts.length/\(e.counts.take i).all DW=true) (fun i=>e.counts.length-i) 0 rfl (by decide) rfl (fun _=>rfl) ⟨by omega,by simp⟩ ⟨⟨_,rfl,rfl⟩,⟨_,rfl,rfl⟩,trivial⟩ ?_
 conv=>whnf
 refine⟨rfl,?_⟩
 rintro i ⟨hi,hall⟩
 have hb:=uH hall
 have hb':((e.counts.take i).length:Int)<=6:=by simp; omega
 conv=>whnf
 refine⟨fun h3=>?_,fun h3=>?_⟩
 ·have hi':i<e.counts.length:=by simpa using h3
  have hs:=PX hi'
  conv=>whnf
  repeat(refine VC.mk (by first|exact id|(intro h; rw[h]; rfl)|(intro h; (repeat' apply And.intro)<;>first|exact h|omega|(simp only[Rw.oK]; omega)|(simp only[Rw.rng]; omega))|(simp only[Rw.rng] at *; first|omega|(simp_all; done)|(simp_all; omega))) ?_; conv=>whnf)
  refine⟨fun h4=>?_,fun h4=>?_⟩
  ·conv=>whnf
   replace h4:(decide (e.counts.getD i 0<0)||decide (1048576<e.counts.getD i 0))=true:=h4
   rw[Iw] at h4
   exact ak.int (by rw[oN,if_neg h,uV (d:=0) hi' (by simpa using h4)]; rfl)
  ·replace h4:(decide (e.counts.getD i 0<0)||decide (1048576<e.counts.getD i 0))=false:=h4
   rw[Iw] at h4
   have h4':DW (e.counts.getD i 0)=true:=by simpa using h4
   have acE:(e.counts.take (i+1)).all DW=true:=by rw[xO (d:=0) hi' hall]; exact h4'
   have hc:=uH acE
   have hc':((e.counts.take (i+1)).length:Int)<=6:=by simp; omega
   conv=>whnf
   repeat(refine VC.mk (by first|(simp only[okI,Int.toNat_natCast] at *; rw[<- hs]; omega)|(simp only[okI,Rw.rng] at *; first|omega|(simp_all; done)|(simp_all; omega))) ?_; conv=>whnf)
   refine⟨i+1,⟨by omega,acE⟩,by omega,⟨⟨_,rfl,rfl⟩,⟨_,rfl,?_⟩,trivial⟩,?_,rfl⟩
   ·rw[hs]; simp[V.aH,ru]
   ·repeat' (first|exact trivial|exact⟨_,rfl,rfl⟩|constructor)
 ·have hi':e.counts.length<=i:=by simpa using h3
  rw[List.take_of_length_le hi'] at hall
  rw[List.take_of_length_le hi']
  conv=>whnf
  exact ak.int (by rw[oN,if_neg h,if_pos hall])
end Go.Proofs.YtkomllaebngbfaaGreatDoor
