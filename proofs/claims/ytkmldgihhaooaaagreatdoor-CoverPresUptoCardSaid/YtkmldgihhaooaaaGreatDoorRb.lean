/-
 The two programs' rules for a protocol's rules say the same. No condition.
-/
import Derived.Test.YtkmldgihhaooaaaGreatDoorRa
import Derived.Test.YtkmldgihhaooaaaGreatDoorLg
namespace Go.Proofs.YtkmldgihhaooaaaGreatDoor
open Go.Ab Go.Proofs
theorem EU{x n:Int}:(!(jl x 0 (n-1)))=qX x n:=by rw[pG,Bool.not_not]
theorem vals_eq(p:aO)(r:Rule):Az p r=((decide (r.read< -1)||decide (r.read>=p.values.length))||(decide (r.write< -1)||decide (r.write>=p.values.length))):=by
 simp only[Az,EU,qX]
 rw[Bool.eq_iff_iff]; simp; omega
theorem ab2(a b:Bool)(v:Int)(r:List Int)(h:v≠0):bH (dP (a||b) v::r)=bH (dP a v::dP b v::r):=by
 cases a<;>cases b<;>simp[dP,bH,h]
theorem Qs(p:aO)(l:List AB)(r:List Int):bH (yD p l::r)=bH (kE p l::dP (decide ((l.length:Int)>2)) 4::r):=by
 by_cases h:kE p l=0
 ·rw[show yD p l=dP (decide ((l.length:Int)>2)) 4 from if_pos h,h]; rfl
 ·rw[show yD p l=kE p l from if_neg h,fN h,fN h]
theorem VJ{c d:Bool}:(bif c then true else d)=(c||d):=by cases c<;>rfl
theorem len_nil{α:Type}{l:List α}(h:decide ((l.length:Int)>0)=false):l=[]:=by
 cases l with
 |nil=>rfl
 |cons a r=>simp at h
theorem Ns{r:Rule}{t:Int}(h:mg r t=false) :
  (r.kind≠1->r.guards=[]/\r.ex=[]/\r.all=[]/\r.send=[])/\(r.kind≠1->r.kind≠2->r.kind≠3->r.read= -1/\r.write= -1) /\
  (r.kind≠3->r.response=[])/\(r.kind≠5->r.direction=0)/\(r.kind≠4->r.pos=0/\r.left=[]/\r.right=[])/\(¬(r.kind=4/\t=4)->r.parent=[]):=by
 simp only[mg,VJ,Bool.or_eq_false_iff] at h
 obtain⟨h1,h2,h3,⟨h4,h5⟩,h6,h7⟩:=h
 refine⟨fun k=>?_,fun k1 k2 k3=>?_,fun k=>?_,fun k=>?_,fun k=>?_,fun k=>?_⟩
 ·simp only[beq_eq_false_iff_ne.2 k,Bool.not_false,Bool.true_and,Bool.or_eq_false_iff] at h1
  exact⟨len_nil h1.1.1.1,len_nil h1.1.1.2,len_nil h1.1.2,len_nil h1.2⟩
 ·simp only[beq_eq_false_iff_ne.2 k1,beq_eq_false_iff_ne.2 k2,beq_eq_false_iff_ne.2 k3,Bool.not_false,Bool.true_and,Bool.or_eq_false_iff] at h2
  exact⟨Ui h2.1,Ui h2.2⟩
 ·simp only[beq_eq_false_iff_ne.2 k,Bool.not_false,Bool.true_and] at h4
  exact len_nil h4
 ·simp only[beq_eq_false_iff_ne.2 k,Bool.not_false,Bool.true_and] at h5
  exact Ui h5
 ·simp only[beq_eq_false_iff_ne.2 k,Bool.not_false,Bool.true_and,Bool.or_eq_false_iff] at h6
  exact⟨Ui h6.1.1,len_nil h6.1.2,len_nil h6.2⟩
 ·refine len_nil ?_
  rw[Bool.and_eq_false_iff] at h7
  rcases h7 with h7|h7
  ·exact h7
  ·simp only[Bool.not_eq_false',Bool.and_eq_true,beq_iff_eq] at h7
   exact absurd h7 k
theorem kind_eq{r:Rule}{t:Int}:((!(jl r.kind 1 5)||(decide (r.kind<=3) !=(t==1)))||mg r t)=(!(vC r.kind t)||kT r t):=by
 by_cases hk:1<=r.kind/\r.kind<=5
 ·rw[AZ hk]
  congr 1
  have hk':r.kind=1\/r.kind=2\/r.kind=3\/r.kind=4\/r.kind=5:=by omega
  rcases hk' with e|e|e|e|e<;>rw[e]<;>cases ht:(t==1)<;>simp[jl,vC,ht]
 ·have h1:jl r.kind 1 5=false:=by rw[jl,Bool.and_eq_false_iff]; simp; omega
  have h2:vC r.kind t=false:=by
   have:r.kind≠1/\r.kind≠2/\r.kind≠3/\r.kind≠4/\r.kind≠5:=by omega
   obtain⟨a,b,c,d,e⟩:=this
   simp[vC,a,b,c,d,e]
  rw[h1,h2]; rfl
theorem Jw(p:aO)(r:Rule):(xO p r !=0)=(qX r.fr p.states.length||qX r.to p.states.length):=by
 simp only[xO,dA]
 cases qX r.fr p.states.length<;>cases qX r.to p.states.length<;>rfl
theorem afX(p:aO)(r:Rule)(h:(xO p r !=0)=true):xO p r=5:=by
 rw[Jw] at h
 simp only[xO,dA]
 revert h
 cases qX r.fr p.states.length<;>cases qX r.to p.states.length<;>intro h<;>first|rfl|cases h
theorem CS(n:Int):jA [] n=0:=rfl
theorem Zl(x:Int):bH [x,0,0,0,0,0,0]=bH [x]:=by
 simp only[bH]; simp
theorem D7{a:Int}{X Y:List Int}(h:bH X=bH Y):bH (a::X)=bH (a::Y):=by simp only[bH,h]
theorem VF(x:Int):bH [x,0,0,0,0,0,0,0]=bH [x]:=by
 simp only[bH]; simp
theorem VG(x:Int):bH [x,0,0]=bH [x]:=by
 simp only[bH]; simp
theorem MI(p:aO)(r:Rule):bH [dP (Az p r) 5,0,0,0,0,0,0,0]=bH [jM p r.read,jM p r.write]:=by
 rw[vals_eq,ab2 _ _ _ _ (by decide)]
 exact D7 (VF _)
theorem ab3(p:aO)(i:Nat):zG p i=gW p i:=by
 simp only[zG,gW,sQ,rF]
 generalize p.rules.getD i default=r
 cases hv:validName r.name with
 |false=>rfl
 |true =>
 cases ha:(p.rules.take i).any (fun x=>x.name==r.name) with
 |true=>rfl
 |false =>
 simp only[Jl,kind_eq,Bool.not_true,Bool.or_false,cond_false]
 cases hk:(!(vC r.kind p.topology)||kT r p.topology) with
 |true=>rfl
 |false =>
 have hk2:=hk
 rw[<- kind_eq,Bool.or_eq_false_iff,Bool.or_eq_false_iff,Bool.not_eq_false'] at hk2
 obtain⟨⟨k1,_⟩,k2⟩:=hk2
 obtain⟨u1,u2,u3,u4,u5,u6⟩:=Ns k2
 have hk':r.kind=1\/r.kind=2\/r.kind=3\/r.kind=4\/r.kind=5:=by
  simp only[jl,Bool.and_eq_true,decide_eq_true_eq] at k1; omega
 cases he:(xO p r !=0) with
 |true =>
  rw[afX p r he]
  rw[Jw] at he
  simp only[Jk,EU,he]; rfl
 |false =>
 rw[Jw] at he
 simp only[Jk,EU,he,Bool.false_or,cond_false]
 rcases hk' with e|e|e|e|e
 ·have a5:=u5 (by omega)
  have m4:ER p r=false:=by simp[ER,e]
  have d1:ES p r=false:=by simp[ES,e]
  have d2:ET p r=false:=by simp[ET,e]
  simp only[iE,m4,d1,d2,a5.2.1,a5.2.2,u6 (by omega),e,CS,Int.reduceBEq,Bool.or_self,Bool.false_and,cond_false,cond_true]
  rw[Qs]
  refine D7 (D7 (D7 (D7 ?_)))
  rw[vals_eq,ab2 _ _ _ _ (by decide)]
  refine D7 (D7 ?_)
  exact Zl _
 ·obtain⟨g1,g2,g3,g4⟩:=u1 (by omega)
  have a5:=u5 (by omega)
  have m4:ER p r=false:=by simp[ER,e]
  have d1:ES p r=false:=by simp[ES,e]
  have d2:ET p r=false:=by simp[ET,e]
  simp only[iE,m4,d1,d2,g1,g2,g3,g4,a5.2.1,a5.2.2,u6 (by omega),e,CS,Int.reduceBEq,Bool.or_false,Bool.true_and,cond_false,cond_true,dA]
  cases qX r.iV p.states.length with
  |true=>rfl
  |false =>
   cases qX r.zI p.states.length with
   |true=>rfl
   |false=>exact MI p r
 ·obtain⟨g1,g2,g3,g4⟩:=u1 (by omega)
  have a5:=u5 (by omega)
  have m4:ER p r=false:=by simp[ER,e]
  have d1:ES p r=false:=by simp[ES,e]
  have d2:ET p r=false:=by simp[ET,e]
  simp only[iE,m4,d1,d2,g1,g2,g3,g4,a5.2.1,a5.2.2,u6 (by omega),e,CS,Int.reduceBEq,Bool.or_self,Bool.false_and,cond_false,cond_true,Fa]
  cases ((r.response.length:Int) !=p.states.length) with
  |true=>rfl
  |false =>
   simp only[cond_false]
   by_cases hz:qE r.response p.states.length=0
   ·rw[hz]; exact MI p r
   ·rw[show(qE r.response p.states.length !=0)=true by simpa using hz,fN hz]; rfl
 ·obtain⟨g1,g2,g3,g4⟩:=u1 (by omega)
  obtain⟨v1,v2⟩:=u2 (by omega) (by omega) (by omega)
  have m4:ER p r=ab4 p r:=by
   simp only[ER,ab4,e,qV]; rfl
  have d1:ES p r=false:=by simp[ES,e]
  have d2:ET p r=false:=by simp[ET,e]
  have vv:Az p r=false:=by simp[Az,v1,v2]
  simp only[iE,m4,d1,d2,vv,g1,g2,g3,g4,e,CS,Int.reduceBEq,Bool.or_self,Bool.false_and,cond_false,cond_true]
  exact D7 (D7 (D7 (VG _)))
 ·obtain⟨g1,g2,g3,g4⟩:=u1 (by omega)
  obtain⟨v1,v2⟩:=u2 (by omega) (by omega) (by omega)
  have a5:=u5 (by omega)
  have m4:ER p r=false:=by simp[ER,e]
  have vv:Az p r=false:=by simp[Az,v1,v2]
  have d1:ES p r=((p.topology==4)&&(decide (r.direction<3)||decide (r.direction>4))):=by
   simp only[ES,e,qV]; rfl
  have d2:ET p r=(!(p.topology==4)&&(decide (r.direction<1)||decide (r.direction>2))):=by
   simp only[ET,e,qV]; rfl
  simp only[iE,m4,d1,d2,vv,g1,g2,g3,g4,a5.2.1,a5.2.2,u6 (by omega),e,CS,Int.reduceBEq,Bool.or_true,Bool.true_and,cond_false,dA]
  cases qX r.iV p.states.length with
  |true=>cases (p.topology==4)<;>rfl
  |false =>
   cases qX r.zI p.states.length with
   |true=>cases (p.topology==4)<;>rfl
   |false =>
    cases (p.topology==4) with
    |true=>cases (decide (r.direction<3)||decide (r.direction>4))<;>rfl
    |false=>cases (decide (r.direction<1)||decide (r.direction>2))<;>rfl
theorem ab5{p:aO}:(!(jl p.topology 1 4)|| !(jl p.fault 0 3))=vw p:=by
 simp only[qV,vw,Bool.or_assoc]
theorem S.Zm(p:aO)(i:Nat)(hi:i<p.rules.length)(hp:fE p):aj Tryz.prog 103 [.dat (.iI p),.int i] (.int (gW p i)):=by
 rw[<- ab3]; exact S.CQ p i hi hp
theorem ahc{h:Hz}{j:Nat}{Z:Nat->Prop}{l:List Str}(hz:Z j)(q:h.get j=some (.row 9 0 (.strs l) [])):T.sub Z h.ay (V.row 0 false (.strs l)).aH (V.own j).aH:=by
 show T.sub Z h.ay (.sl 0 false (l.map eS)) (.own j)
 simp only[T.sub]
 refine⟨trivial,hz,?_,by decide,9,?_⟩
 ·rw[fU]; intro t ht; obtain⟨x,_,rfl⟩:=List.mem_map.1 ht; rfl
 ·have:=aK q
  rw[this]; simp[OV.au,Rw.aU,V.aU]
theorem S.sS(p:aO)(hp:fE p):aj Tryz.prog 65 [.dat (.iI p)] (.int (bn p)):=by
 have g1:=hp.states; have g2:=hp.messages; have g3:=hp.values; have g4:=hp.cO; have g5:=hp.initial; have g6:=hp.leader; have g7:=hp.rules
 refine aj.of Bd.sS (by simp) rfl rfl ?_
 refine ah.pure (S.kY p.name) rfl ?_
 refine⟨fun h1=>?_,fun h1=>?_⟩
 ·conv=>whnf
  exact ak.int (by rw[bn,h1]; rfl)
 refine ah.pure (S.bg p.topology 1 4) rfl ?_
 repeat(refine VC.mk id ?_)
 refine ah.ig (fun _=>S.bg p.fault 0 3) rfl ?_
 repeat(refine VC.mk (by first|exact id|(intro h; rw[h]; rfl)) ?_)
 refine⟨fun h2=>?_,fun h2=>?_⟩
 ·conv=>whnf
  rw[ab5] at h2
  exact ak.int (by rw[bn,h1,h2]; rfl)
 rw[ab5] at h2
 refine⟨fun h3=>?_,fun h3=>?_⟩
 ·conv=>whnf
  exact ak.int (by rw[bn,h1,h2,show((p.states.length:Int)==0)=true from h3]; rfl)
 replace h3:((p.states.length:Int)==0)=false:=h3
 repeat(refine VC.mk (by first|exact id|(intro h; rw[h]; rfl)) ?_)
 refine⟨fun h4=>?_,fun h4=>?_⟩
 ·conv=>whnf
  exact ak.int (by rw[bn,h1,h2,h3,show wF p=true from h4]; rfl)
 replace h4:wF p=false:=h4
 have h0:0<p.states.length:=by
  rcases Nat.eq_zero_or_pos p.states.length with e|e
  ·rw[e] at h3; exact absurd h3 (by decide)
  ·exact e
 have hlen:(allNames p).length<2^30:=by simp only[allNames,List.length_append]; omega
 repeat(refine VC.mk (by simp only[kH,kQ,Rw.len,List.length_append]; omega) ?_)
 refine aC.fz 3 57 0 (.strs (allNames p)) rfl rfl (ahc rfl rfl) ?_
 refine aC.same [1,3] (fun i:Nat=>[(4,.int i)]) (fun i=>i<=(allNames p).length/\(List.range i).any (Qu (allNames p))=false) (fun i=>(allNames p).length-i) 0 rfl (by decide) rfl (fun _=>rfl) ⟨Nat.zero_le _,rfl⟩ ⟨⟨_,rfl,rfl⟩,trivial⟩ ?_
 refine⟨rfl,?_⟩
 rintro i ⟨hi,hall⟩
 refine⟨fun h5=>?_,fun h5=>?_⟩
 ·have hi':i<(allNames p).length:=by have:(i:Int)<((allNames p).length:Int):=of_decide_eq_true h5; omega
  refine .mk (by simp only[Rw.rng] at *; omega) ?_
  refine ah.pure (S.kY ((allNames p).getD i [])) rfl ?_
  repeat(refine VC.mk (by first|exact id|exact fun h=>⟨h,h⟩|(intro h; (repeat' apply And.intro)<;>first|exact h|omega|(simp only[Rw.qY]; omega)|(simp only[Rw.rng]; omega))) ?_)
  refine ah.ig (fun _=>S.qU ((allNames p).take i) ((allNames p).getD i []) _ (by rw[List.length_take]; omega)) rfl ?_
  refine .mk (by intro h; rw[h]; rfl) ?_
  refine⟨fun h6=>?_,fun h6=>?_⟩
  ·conv=>whnf
   refine ak.int ?_
   rw[bn,h1,h2,h3,h4,show Ak p=2 by rw[Ak,CU.2 ⟨i,hi',h6⟩]; rfl]; rfl
  ·conv=>whnf
   refine .mk (by simp only[okI] at *; omega) ?_
   refine⟨i+1,⟨by omega,?_⟩,by omega,⟨⟨_,rfl,rfl⟩,trivial⟩,?_,rfl⟩
   ·rw[List.range_succ,List.any_append,hall]
    simp only[List.any_cons,List.any_nil,Bool.or_false,Bool.false_or]; exact h6
   ·repeat' (first|exact trivial|exact⟨_,rfl,rfl⟩|constructor)
 have hi':(allNames p).length<=i:=by have: ¬ ((i:Int)<((allNames p).length:Int)):=of_decide_eq_false h5; omega
 have e:i=(allNames p).length:=Nat.le_antisymm hi hi'
 subst e
 have h5:Ak p=0:=by rw[Ak,hall]; rfl
 clear hi hall hi' hlen
 repeat(refine VC.mk (by first|exact id|(intro h; rw[h]; rfl)|(intro h; simp[h]; done)|(intro h; simp_all; done)) ?_)
 refine⟨fun h6=>?_,fun h6=>?_⟩
 ·conv=>whnf
  exact ak.int (by rw[bn,h1,h2,h3,h4,h5,show TS p=true from h6]; rfl)
 replace h6:TS p=false:=h6
 refine aC.same [1] (fun i:Nat=>[(5,.int i)]) (fun i=>i<=p.cO.length/\(p.cO.take i).any (fun l=> !(TJ l))=false) (fun i=>p.cO.length-i) 0 rfl (by decide) rfl (fun _=>rfl) ⟨by omega,by simp⟩ ⟨⟨_,rfl,rfl⟩,trivial⟩ ?_
 refine⟨rfl,?_⟩
 rintro i ⟨hi,hall⟩
 refine⟨fun h7=>?_,fun h7=>?_⟩
 ·have hi':i<p.cO.length:=by simpa using h7
  refine .mk (by simp only[Rw.rng] at *; omega) ?_
  refine ah.pure (S.Aj (p.cO.getD i default)) rfl ?_
  refine⟨fun h8=>?_,fun h8=>?_⟩
  ·conv=>whnf
   exact ak.int (by rw[bn,h1,h2,h3,h4,h5,h6,jL (d:=default) hi' h8]; rfl)
  ·conv=>whnf
   refine .mk (by simp only[okI] at *; omega) ?_
   refine⟨i+1,⟨by omega,?_⟩,by omega,⟨⟨_,rfl,rfl⟩,trivial⟩,?_,rfl⟩
   ·rw[mV (d:=default) hi' hall]; exact h8
   ·repeat' (first|exact trivial|exact⟨_,rfl,rfl⟩|constructor)
 have hi':p.cO.length<=i:=by simpa using h7
 rw[List.take_of_length_le hi'] at hall
 clear hi hi' h7
 refine ah.pure (S.kD p.initial p.states.length false (by omega) ⟨by omega,by omega⟩) rfl ?_
 refine⟨fun h7=>?_,fun h7=>?_⟩
 ·replace h7:=TR h7
  have:yP p=jA p.initial p.states.length:=fN h7
  exact ak.int (by rw[bn,h1,h2,h3,h4,h5,h6,hall,this,show(jA p.initial p.states.length !=0)=true by simpa using h7]; rfl)
 replace h7:=DJ h7
 refine⟨fun h8=>?_,fun h8=>?_⟩
 ·replace h8:((p.initial.length:Int)==0)=true:=h8
  have:yP p=1:=by rw[yP,h7,h8]; rfl
  exact ak.int (by rw[bn,h1,h2,h3,h4,h5,h6,hall,this]; rfl)
 replace h8:((p.initial.length:Int)==0)=false:=h8
 refine ah.pure (S.kD p.leader p.states.length false (by omega) ⟨by omega,by omega⟩) rfl ?_
 refine⟨fun h9=>?_,fun h9=>?_⟩
 ·replace h9:=TR h9
  have:yP p=jA p.leader p.states.length:=by rw[yP,h7,h8]; exact fN h9
  exact ak.int (by rw[bn,h1,h2,h3,h4,h5,h6,hall,this,show(jA p.leader p.states.length !=0)=true by simpa using h9]; rfl)
 replace h9:=DJ h9
 have h10:yP p=0:=by rw[yP,h7,h8,h9]; rfl
 refine aC.same [1] (fun i:Nat=>[(8,.int i)]) (fun i=>i<=p.rules.length/\D8 p=bH (((List.range p.rules.length).drop i).map (gW p))) (fun i=>p.rules.length-i) 0 rfl (by decide) rfl (fun _=>rfl) ⟨by omega,by simp[D8]⟩ ⟨⟨_,rfl,rfl⟩,trivial⟩ ?_
 refine⟨rfl,?_⟩
 rintro i ⟨hi,hr⟩
 refine⟨fun h11=>?_,fun h11=>?_⟩
 ·have hi':i<p.rules.length:=by simpa using h11
  rw[MJ hi'] at hr
  simp only[bH] at hr
  refine ah.pure (S.Zm p i hi' hp) rfl ?_
  refine⟨fun h12=>?_,fun h12=>?_⟩
  ·conv=>whnf
   have afY:gW p i≠0:=TR h12
   rw[if_neg afY] at hr
   exact ak.int (by rw[bn,h1,h2,h3,h4,h5,h6,hall,h10,hr,show(gW p i !=0)=true from h12]; rfl)
  ·conv=>whnf
   refine .mk (by simp only[okI] at *; omega) ?_
   conv=>whnf
   have afY:gW p i=0:=DJ h12
   rw[if_pos afY] at hr
   refine⟨i+1,⟨by omega,hr⟩,by omega,⟨⟨_,rfl,rfl⟩,trivial⟩,?_,rfl⟩
   repeat' (first|exact trivial|exact⟨_,rfl,rfl⟩|constructor)
 have hi':p.rules.length<=i:=by simpa using h11
 rw[List.drop_eq_nil_of_le (by simpa using hi')] at hr
 refine ah.pure (S.sO p hp) rfl ?_
 refine⟨fun h12=>?_,fun h12=>?_⟩
 ·conv=>whnf
  exact ak.int (by rw[bn,h1,h2,h3,h4,h5,h6,hall,h10,hr,show decide (((zD p.rules).length:Int)>3)=true from h12]; rfl)
 ·conv=>whnf
  exact ak.int (by rw[bn,h1,h2,h3,h4,h5,h6,hall,h10,hr,show decide (((zD p.rules).length:Int)>3)=false from h12]; rfl)
def TT(p:aO)(i:Nat):V:=.agg [.bool (((p.topology==1)&&((p.values.length:Int)==0))&&(p.rules.take i).foldl TU true),.bool (rG p&& !((p.rules.take i).foldl QD false)),.bool ((p.topology==2)||(p.topology==3)),.bool (p.topology==4),.bool (rG p&&decide ((p.states.length:Int)<=4))]
def badR(r:Rule):Bool:=r.kind !=1||decide (r.fr>=r.to)||decide ((r.ex.length:Int)>0)||decide ((r.all.length:Int)>0)
theorem ad8{acc:Bool}{r:Rule}(h:badR r=true):TU acc r=false:=by
 simp only[badR,Bool.or_eq_true,bne_iff_ne,decide_eq_true_eq] at h
 simp only[TU]
 rw[Bool.eq_false_iff]; intro q
 simp only[Bool.and_eq_true,beq_iff_eq,decide_eq_true_eq] at q
 omega
theorem afZ{acc:Bool}{r:Rule}(h:badR r=false):TU acc r=acc:=by
 simp only[badR,Bool.or_eq_false_iff,bne_eq_false_iff_eq,decide_eq_false_iff_not] at h
 obtain⟨⟨⟨a,b⟩,c⟩,d⟩:=h
 simp only[TU]
 rw[show(r.kind==1)=true from beq_iff_eq.2 a,decide_eq_true (by omega),show((r.ex.length:Int)==0)=true from beq_iff_eq.2 (by omega),show((r.all.length:Int)==0)=true from beq_iff_eq.2 (by omega)]
 simp
theorem ahP(p:aO):TT p 0= .agg [.bool ((p.topology==1)&&((p.values.length:Int)==0)),.bool (rG p),.bool ((p.topology==2)||(p.topology==3)),.bool (p.topology==4),.bool (rG p&&decide ((p.states.length:Int)<=4))]:=by
 simp[TT]
theorem GY(p:aO){i:Nat}(hi:i<p.rules.length):TT p (i+1) =
  .agg [.bool (bif badR (p.rules.getD i default) then false else((p.topology==1)&&((p.values.length:Int)==0))&&(p.rules.take i).foldl TU true),
   .bool (bif decide (((p.rules.getD i default).all.length:Int)>0) then false else rG p&& !((p.rules.take i).foldl QD false)),.bool ((p.topology==2)||(p.topology==3)),.bool (p.topology==4),.bool (rG p&&decide ((p.states.length:Int)<=4))]:=by
 simp only[TT,CP (d:=default) hi]
 cases hb:badR (p.rules.getD i default) with
 |true =>
  rw[ad8 hb,QD]
  cases decide (((p.rules.getD i default).all.length:Int)>0)<;>simp
 |false =>
  rw[afZ hb,QD]
  cases decide (((p.rules.getD i default).all.length:Int)>0)<;>simp
theorem S.pF(p:aO)(hp:fE p):aj Tryz.prog 35 [.dat (.iI p)] (IL p):=by
 have g1:=hp.states; have g2:=hp.messages; have g3:=hp.values; have g4:=hp.cO; have g7:=hp.rules
 refine aj.of Bd.pF (by simp) rfl rfl ?_
 refine ah.pure (S.sS p hp) rfl ?_
 refine⟨fun h1=>?_,fun h1=>?_⟩
 ·conv=>whnf
  refine ak.eqv ?_
  rw[IL,h1]; rfl
 have h1':bn p=0:=DJ h1
 repeat(refine VC.mk (by first|exact id|(intro h; rw[h]; rfl)) ?_)
 refine aC.objs 100 [1,2,7] (fun i:Nat=>[(8,.int i)]) (fun i=>[(0,.box 27 11 (.dat (.iI p))),(1,.box 68 6 (ahd Fe)),(58,.box 68 6 (TT p i))]) (fun i=>i<=p.rules.length) (fun i=>p.rules.length-i) 0 [0,1,58] rfl (by decide) (fun _=>rfl) (Nat.zero_le _) ?_ ?_ ?_
 ·exact(sR rfl)
 ·refine⟨fC rfl rfl,fC rfl rfl,⟨rfl,nofun,rfl,rfl,rfl,_,rfl,rfl,rfl,dR.of_eq ?_⟩,trivial⟩
  rw[ahP]; rfl
 refine⟨(sR rfl),rfl,?_⟩
 rintro i hi
 have g8:=hp.rule i
 have g9:=g8.ex; have g10:=g8.all
 refine⟨fun h3=>?_,fun h3=>?_⟩
 ·have hi':i<p.rules.length:=by simpa using h3
  repeat(refine VC.mk (by first|exact id|exact fun h=>⟨h,h⟩|(intro h; rw[h]; rfl)|(simp only[Rw.rng] at *; omega)) ?_)
  refine⟨fun h4=>?_,fun h4=>?_⟩
  ·replace h4:badR (p.rules.getD i default)=true:=h4
   refine⟨fun h5=>?_,fun h5=>?_⟩
   ·replace h5:decide (((p.rules.getD i default).all.length:Int)>0)=true:=h5
    refine .mk (by simp only[okI] at *; omega) ?_
    refine⟨i+1,[0,1,58],by omega,by omega,(sR rfl),(sR rfl),fC rfl rfl,fC rfl rfl,⟨rfl,nofun,rfl,rfl,rfl,_,rfl,rfl,rfl,dR.of_eq ?_⟩,trivial⟩
    rw[GY p hi',h4,h5]; rfl
   ·replace h5:decide (((p.rules.getD i default).all.length:Int)>0)=false:=h5
    refine .mk (by simp only[okI] at *; omega) ?_
    refine⟨i+1,[0,1,58],by omega,by omega,(sR rfl),(sR rfl),fC rfl rfl,fC rfl rfl,⟨rfl,nofun,rfl,rfl,rfl,_,rfl,rfl,rfl,dR.of_eq ?_⟩,trivial⟩
    rw[GY p hi',h4,h5]; rfl
  ·replace h4:badR (p.rules.getD i default)=false:=h4
   refine⟨fun h5=>?_,fun h5=>?_⟩
   ·replace h5:decide (((p.rules.getD i default).all.length:Int)>0)=true:=h5
    refine .mk (by simp only[okI] at *; omega) ?_
    refine⟨i+1,[0,1,58],by omega,by omega,(sR rfl),(sR rfl),fC rfl rfl,fC rfl rfl,⟨rfl,nofun,rfl,rfl,rfl,_,rfl,rfl,rfl,dR.of_eq ?_⟩,trivial⟩
    rw[GY p hi',h4,h5]; rfl
   ·replace h5:decide (((p.rules.getD i default).all.length:Int)>0)=false:=h5
    refine .mk (by simp only[okI] at *; omega) ?_
    refine⟨i+1,[0,1,58],by omega,by omega,(sR rfl),(sR rfl),fC rfl rfl,fC rfl rfl,⟨rfl,nofun,rfl,rfl,rfl,_,rfl,rfl,rfl,dR.of_eq ?_⟩,trivial⟩
    rw[GY p hi',h4,h5]; rfl
 have hi':p.rules.length<=i:=by simpa using h3
 have e:i=p.rules.length:=Nat.le_antisymm hi hi'
 subst e
 refine ak.eqv ?_
 rw[IL,h1',fK]
 simp only[List.take_length]
 rfl
theorem Qq{x:Int}:(decide (x<0)||decide (1048576<x))= !(AP x):=by
 unfold AP; rw[Bool.eq_iff_iff]; simp
def Xq(p:aO):Int:=bif bn p !=0 then bn p else bif !(fK p).cover&& !(fK p).monadic then 7 else 0
def jc(p:aO)(e:Elem):Bool:=((((e.counts.length:Int) !=p.states.length)|| !(e.counts.all AP))||decide (e.value<0))||decide (e.value>=max 1 (p.values.length:Int))
def VL(p:aO)(e:Elem):Int:=bif Xq p !=0 then Xq p else dP (jc p e) 1
theorem S.gK(p:aO)(e:Elem)(hp:fE p)(he:e.counts.length<2^30):aj Tryz.prog 44 [.dat (.iI p),.dat (.elem e)] (.int (dP (jc p e) 1)):=by
 have g1:=hp.states
 have g3:=hp.values
 refine aj.of Bd.gK (by simp) rfl rfl ?_
 repeat(refine VC.mk id ?_)
 refine ah.ig (fun _=>S.kW e.counts false (by omega)) rfl ?_
 repeat(refine VC.mk (by first|exact id|exact fun h=>⟨h,h⟩|(intro h; rw[h]; rfl)) ?_)
 refine⟨fun h1=>?_,fun h1=>?_⟩
 ·conv=>whnf
  exact ak.int (by rw[show jc p e=true from h1]; rfl)
 ·conv=>whnf
  exact ak.int (by rw[show jc p e=false from h1]; rfl)
theorem VH(p:aO)(e:Elem):jc p e=(((((e.counts.length:Int) !=p.states.length)||decide (e.value<0))||decide (e.value>=max 1 (p.values.length:Int)))|| !(e.counts.all AP)):=by
 unfold jc
 cases ((e.counts.length:Int) !=p.states.length)<;>cases (e.counts.all AP)<;>cases decide (e.value<0)<;>cases decide (e.value>=max 1 (p.values.length:Int))<;>rfl
theorem S.xK(p:aO)(e:Elem)(hp:fE p)(he:e.counts.length<2^30):aj Tryz.prog 36 [.dat (.iI p),.dat (.elem e)] (.bool (!(jc p e))):=by
 have g1:=hp.states
 have g3:=hp.values
 refine aj.of Bd.xK (by simp) rfl rfl ?_
 repeat(refine VC.mk (by first|exact id|exact fun h=>⟨h,h⟩|(intro h; rw[h]; rfl)) ?_)
 refine⟨fun h1=>?_,fun h1=>?_⟩
 ·conv=>whnf
  refine ak.bool ?_
  rw[VH,show((((e.counts.length:Int) !=p.states.length)||decide (e.value<0))||decide (e.value>=max 1 (p.values.length:Int)))=true from h1]; rfl
 refine aC.same [2,3] (fun i:Nat=>[(5,.int i)]) (fun i=>i<=e.counts.length/\(e.counts.take i).all AP=true) (fun i=>e.counts.length-i) 0 rfl (by decide) rfl (fun _=>rfl) ⟨by omega,by simp⟩ ⟨⟨_,rfl,rfl⟩,trivial⟩ ?_
 refine⟨rfl,?_⟩
 rintro i ⟨hi,hall⟩
 refine⟨fun h3=>?_,fun h3=>?_⟩
 ·have hi':i<e.counts.length:=by simpa using h3
  repeat(refine VC.mk (by first|exact id|(intro h; rw[h]; rfl)|(intro h; (repeat' apply And.intro)<;>first|exact h|omega|(simp only[Rw.qY]; omega)|(simp only[Rw.rng]; omega))|(simp only[Rw.rng] at *; omega)) ?_)
  refine⟨fun h4=>?_,fun h4=>?_⟩
  ·conv=>whnf
   refine ak.bool ?_
   replace h4:(decide (e.counts.getD i 0<0)||decide (1048576<e.counts.getD i 0))=true:=h4
   rw[Qq] at h4
   rw[VH,Ec (d:=0) hi' (by simpa using h4)]; simp
  ·conv=>whnf
   refine .mk (by simp only[okI] at *; omega) ?_
   conv=>whnf
   replace h4:(decide (e.counts.getD i 0<0)||decide (1048576<e.counts.getD i 0))=false:=h4
   rw[Qq] at h4
   refine⟨i+1,⟨by omega,?_⟩,by omega,⟨⟨_,rfl,rfl⟩,trivial⟩,?_,rfl⟩
   ·rw[He (d:=0) hi' hall]; simpa using h4
   ·repeat' (first|exact trivial|exact⟨_,rfl,rfl⟩|constructor)
 ·have hi':e.counts.length<=i:=by simpa using h3
  rw[List.take_of_length_le hi'] at hall
  refine ak.bool ?_
  rw[VH,hall,show((((e.counts.length:Int) !=p.states.length)||decide (e.value<0))||decide (e.value>=max 1 (p.values.length:Int)))=false from h1]; rfl
end Go.Proofs.YtkmldgihhaooaaaGreatDoor
