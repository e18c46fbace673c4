/-
 The two programs' rules for a protocol's rules say the same. No condition.
-/
import Derived.Test.YtbfhebmdcpmfaaaGreatDoorRa
import Derived.Test.YtbfhebmdcpmfaaaGreatDoorLf
namespace Go.Proofs.YtbfhebmdcpmfaaaGreatDoor
open Go.Ab Go.Proofs
theorem Ci{x n:Int}:(!(iP x 0 (n-1)))=ou x n:=by rw[nJ,Bool.not_not]
theorem vals_eq(p:aU)(r:Rule):yE p r=((decide (r.read< -1)||decide (r.read>=p.values.length))||(decide (r.write< -1)||decide (r.write>=p.values.length))):=by
 simp only[yE,Ci,ou]
 rw[Bool.eq_iff_iff]; simp; omega
theorem XR(a b:Bool)(v:Int)(r:List Int)(h:v≠0):aQ (eu (a||b) v::r)=aQ (eu a v::eu b v::r):=by
 cases a<;>cases b<;>simp[eu,aQ,h]
theorem LQ(p:aU)(l:List yM)(r:List Int):aQ (vK p l::r)=aQ (jK p l::eu (decide ((l.length:Int)>2)) 4::r):=by
 by_cases h:jK p l=0
 ·rw[show vK p l=eu (decide ((l.length:Int)>2)) 4 from if_pos h,h]; rfl
 ·rw[show vK p l=jK p l from if_neg h,fN h,fN h]
theorem QU{c d:Bool}:(bif c then true else d)=(c||d):=by cases c<;>rfl
theorem len_nil{α:Type}{l:List α}(h:decide ((l.length:Int)>0)=false):l=[]:=by
 cases l with
 |nil=>rfl
 |cons a r=>simp at h
theorem Jp{r:Rule}{t:Int}(h:lu r t=false) :
  (r.kind≠1->r.guards=[]/\r.ex=[]/\r.all=[]/\r.send=[])/\(r.kind≠1->r.kind≠2->r.kind≠3->r.read= -1/\r.write= -1) /\
  (r.kind≠3->r.response=[])/\(r.kind≠5->r.direction=0)/\(r.kind≠4->r.pos=0/\r.left=[]/\r.right=[])/\(¬(r.kind=4/\t=4)->r.parent=[]):=by
 simp only[lu,QU,Bool.or_eq_false_iff] at h
 obtain⟨h1,h2,h3,⟨h4,h5⟩,h6,h7⟩:=h
 refine⟨fun k=>?_,fun k1 k2 k3=>?_,fun k=>?_,fun k=>?_,fun k=>?_,fun k=>?_⟩
 ·simp only[beq_eq_false_iff_ne.2 k,Bool.not_false,Bool.true_and,Bool.or_eq_false_iff] at h1
  exact⟨len_nil h1.1.1.1,len_nil h1.1.1.2,len_nil h1.1.2,len_nil h1.2⟩
 ·simp only[beq_eq_false_iff_ne.2 k1,beq_eq_false_iff_ne.2 k2,beq_eq_false_iff_ne.2 k3,Bool.not_false,Bool.true_and,Bool.or_eq_false_iff] at h2
  exact⟨Pj h2.1,Pj h2.2⟩
 ·simp only[beq_eq_false_iff_ne.2 k,Bool.not_false,Bool.true_and] at h4
  exact len_nil h4
 ·simp only[beq_eq_false_iff_ne.2 k,Bool.not_false,Bool.true_and] at h5
  exact Pj h5
 ·simp only[beq_eq_false_iff_ne.2 k,Bool.not_false,Bool.true_and,Bool.or_eq_false_iff] at h6
  exact⟨Pj h6.1.1,len_nil h6.1.2,len_nil h6.2⟩
 ·refine len_nil ?_
  rw[Bool.and_eq_false_iff] at h7
  rcases h7 with h7|h7
  ·exact h7
  ·simp only[Bool.not_eq_false',Bool.and_eq_true,beq_iff_eq] at h7
   exact absurd h7 k
theorem kind_eq{r:Rule}{t:Int}:((!(iP r.kind 1 5)||(decide (r.kind<=3) !=(t==1)))||lu r t)=(!(sN r.kind t)||jW r t):=by
 by_cases hk:1<=r.kind/\r.kind<=5
 ·rw[yT hk]
  congr 1
  have hk':r.kind=1\/r.kind=2\/r.kind=3\/r.kind=4\/r.kind=5:=by omega
  rcases hk' with e|e|e|e|e<;>rw[e]<;>cases ht:(t==1)<;>simp[iP,sN,ht]
 ·have h1:iP r.kind 1 5=false:=by rw[iP,Bool.and_eq_false_iff]; simp; omega
  have h2:sN r.kind t=false:=by
   have:r.kind≠1/\r.kind≠2/\r.kind≠3/\r.kind≠4/\r.kind≠5:=by omega
   obtain⟨a,b,c,d,e⟩:=this
   simp[sN,a,b,c,d,e]
  rw[h1,h2]; rfl
theorem FQ(p:aU)(r:Rule):(uP p r !=0)=(ou r.fr p.states.length||ou r.to p.states.length):=by
 simp only[uP,bV]
 cases ou r.fr p.states.length<;>cases ou r.to p.states.length<;>rfl
theorem abW(p:aU)(r:Rule)(h:(uP p r !=0)=true):uP p r=5:=by
 rw[FQ] at h
 simp only[uP,bV]
 revert h
 cases ou r.fr p.states.length<;>cases ou r.to p.states.length<;>intro h<;>first|rfl|cases h
theorem zK(n:Int):dU [] n=0:=rfl
theorem U5(x:Int):aQ [x,0,0,0,0,0,0]=aQ [x]:=by
 simp only[aQ]; simp
theorem Bf{a:Int}{X Y:List Int}(h:aQ X=aQ Y):aQ (a::X)=aQ (a::Y):=by simp only[aQ,h]
theorem QG(x:Int):aQ [x,0,0,0,0,0,0,0]=aQ [x]:=by
 simp only[aQ]; simp
theorem QH(x:Int):aQ [x,0,0]=aQ [x]:=by
 simp only[aQ]; simp
theorem IJ(p:aU)(r:Rule):aQ [eu (yE p r) 5,0,0,0,0,0,0,0]=aQ [jo p r.read,jo p r.write]:=by
 rw[vals_eq,XR _ _ _ _ (by decide)]
 exact Bf (QG _)
theorem XT(p:aU)(i:Nat):xq p i=fZ p i:=by
 simp only[xq,fZ,qF,pq]
 generalize p.rules.getD i default=r
 cases hv:validName r.name with
 |false=>rfl
 |true =>
 cases ha:(p.rules.take i).any (fun x=>x.name==r.name) with
 |true=>rfl
 |false =>
 simp only[Fv,kind_eq,Bool.not_true,Bool.or_false,cond_false]
 cases hk:(!(sN r.kind p.topology)||jW r p.topology) with
 |true=>rfl
 |false =>
 have hk2:=hk
 rw[<- kind_eq,Bool.or_eq_false_iff,Bool.or_eq_false_iff,Bool.not_eq_false'] at hk2
 obtain⟨⟨k1,_⟩,k2⟩:=hk2
 obtain⟨u1,u2,u3,u4,u5,u6⟩:=Jp k2
 have hk':r.kind=1\/r.kind=2\/r.kind=3\/r.kind=4\/r.kind=5:=by
  simp only[iP,Bool.and_eq_true,decide_eq_true_eq] at k1; omega
 cases he:(uP p r !=0) with
 |true =>
  rw[abW p r he]
  rw[FQ] at he
  simp only[Fq,Ci,he]; rfl
 |false =>
 rw[FQ] at he
 simp only[Fq,Ci,he,Bool.false_or,cond_false]
 rcases hk' with e|e|e|e|e
 ·have a5:=u5 (by omega)
  have m4:Cb p r=false:=by simp[Cb,e]
  have d1:Cc p r=false:=by simp[Cc,e]
  have d2:Ce p r=false:=by simp[Ce,e]
  simp only[gy,m4,d1,d2,a5.2.1,a5.2.2,u6 (by omega),e,zK,Int.reduceBEq,Bool.or_self,Bool.false_and,cond_false,cond_true]
  rw[LQ]
  refine Bf (Bf (Bf (Bf ?_)))
  rw[vals_eq,XR _ _ _ _ (by decide)]
  refine Bf (Bf ?_)
  exact U5 _
 ·obtain⟨g1,g2,g3,g4⟩:=u1 (by omega)
  have a5:=u5 (by omega)
  have m4:Cb p r=false:=by simp[Cb,e]
  have d1:Cc p r=false:=by simp[Cc,e]
  have d2:Ce p r=false:=by simp[Ce,e]
  simp only[gy,m4,d1,d2,g1,g2,g3,g4,a5.2.1,a5.2.2,u6 (by omega),e,zK,Int.reduceBEq,Bool.or_false,Bool.true_and,cond_false,cond_true,bV]
  cases ou r.jd p.states.length with
  |true=>rfl
  |false =>
   cases ou r.CQ p.states.length with
   |true=>rfl
   |false=>exact IJ p r
 ·obtain⟨g1,g2,g3,g4⟩:=u1 (by omega)
  have a5:=u5 (by omega)
  have m4:Cb p r=false:=by simp[Cb,e]
  have d1:Cc p r=false:=by simp[Cc,e]
  have d2:Ce p r=false:=by simp[Ce,e]
  simp only[gy,m4,d1,d2,g1,g2,g3,g4,a5.2.1,a5.2.2,u6 (by omega),e,zK,Int.reduceBEq,Bool.or_self,Bool.false_and,cond_false,cond_true,CV]
  cases ((r.response.length:Int) !=p.states.length) with
  |true=>rfl
  |false =>
   simp only[cond_false]
   by_cases hz:oz r.response p.states.length=0
   ·rw[hz]; exact IJ p r
   ·rw[show(oz r.response p.states.length !=0)=true by simpa using hz,fN hz]; rfl
 ·obtain⟨g1,g2,g3,g4⟩:=u1 (by omega)
  obtain⟨v1,v2⟩:=u2 (by omega) (by omega) (by omega)
  have m4:Cb p r=XU p r:=by
   simp only[Cb,XU,e,oW]; rfl
  have d1:Cc p r=false:=by simp[Cc,e]
  have d2:Ce p r=false:=by simp[Ce,e]
  have vv:yE p r=false:=by simp[yE,v1,v2]
  simp only[gy,m4,d1,d2,vv,g1,g2,g3,g4,e,zK,Int.reduceBEq,Bool.or_self,Bool.false_and,cond_false,cond_true]
  exact Bf (Bf (Bf (QH _)))
 ·obtain⟨g1,g2,g3,g4⟩:=u1 (by omega)
  obtain⟨v1,v2⟩:=u2 (by omega) (by omega) (by omega)
  have a5:=u5 (by omega)
  have m4:Cb p r=false:=by simp[Cb,e]
  have vv:yE p r=false:=by simp[yE,v1,v2]
  have d1:Cc p r=((p.topology==4)&&(decide (r.direction<3)||decide (r.direction>4))):=by
   simp only[Cc,e,oW]; rfl
  have d2:Ce p r=(!(p.topology==4)&&(decide (r.direction<1)||decide (r.direction>2))):=by
   simp only[Ce,e,oW]; rfl
  simp only[gy,m4,d1,d2,vv,g1,g2,g3,g4,a5.2.1,a5.2.2,u6 (by omega),e,zK,Int.reduceBEq,Bool.or_true,Bool.true_and,cond_false,bV]
  cases ou r.jd p.states.length with
  |true=>cases (p.topology==4)<;>rfl
  |false =>
   cases ou r.CQ p.states.length with
   |true=>cases (p.topology==4)<;>rfl
   |false =>
    cases (p.topology==4) with
    |true=>cases (decide (r.direction<3)||decide (r.direction>4))<;>rfl
    |false=>cases (decide (r.direction<1)||decide (r.direction>2))<;>rfl
theorem XV{p:aU}:(!(iP p.topology 1 4)|| !(iP p.fault 0 3))=sK p:=by
 simp only[oW,sK,Bool.or_assoc]
theorem S.U6(p:aU)(i:Nat)(hi:i<p.rules.length)(hp:dh p):ak Tryz.prog 91 [.dat (.dF p),.int i] (.int (fZ p i)):=by
 rw[<- XT]; exact S.zJ p i hi hp
theorem ZW{h:Hz}{j:Nat}{Z:Nat->Prop}{l:List Str}(hz:Z j)(q:h.get j=some (.row 9 0 (.strs l) [])):T.sub Z h.aj (V.row 0 false (.strs l)).aG (V.own j).aG:=by
 show T.sub Z h.aj (.sl 0 false (l.map eS)) (.own j)
 simp only[T.sub]
 refine⟨trivial,hz,?_,by decide,9,?_⟩
 ·rw[ig]; intro t ht; obtain⟨x,_,rfl⟩:=List.mem_map.1 ht; rfl
 ·have:=aH q
  rw[this]; simp[OV.aF,Rw.aT,V.aT]
theorem S.qG(p:aU)(hp:dh p):ak Tryz.prog 63 [.dat (.dF p)] (.int (dn p)):=by
 have g1:=hp.states; have g2:=hp.messages; have g3:=hp.values; have g4:=hp.bU; have g5:=hp.initial; have g6:=hp.leader; have g7:=hp.rules
 refine ak.of Bd.qG (by simp) rfl rfl ?_
 conv=>whnf
 refine ah.pure (S.kF p.name) rfl ?_
 conv=>whnf
 refine⟨fun h1=>?_,fun h1=>?_⟩
 ·conv=>whnf
  exact au.int (by rw[dn,h1]; rfl)
 conv=>whnf
 refine ah.pure (S.aZ p.topology 1 4) rfl ?_
 conv=>whnf
 repeat(refine VC.mk id ?_; conv=>whnf)
 refine ah.fP (fun _=>S.aZ p.fault 0 3) rfl ?_
 conv=>whnf
 repeat(refine VC.mk (by first|exact id|(intro h; rw[h]; rfl)) ?_; conv=>whnf)
 refine⟨fun h2=>?_,fun h2=>?_⟩
 ·conv=>whnf
  rw[XV] at h2
  exact au.int (by rw[dn,h1,h2]; rfl)
 rw[XV] at h2
 conv=>whnf
 refine⟨fun h3=>?_,fun h3=>?_⟩
 ·conv=>whnf
  exact au.int (by rw[dn,h1,h2,show((p.states.length:Int)==0)=true from h3]; rfl)
 replace h3:((p.states.length:Int)==0)=false:=h3
 conv=>whnf
 repeat(refine VC.mk (by first|exact id|(intro h; rw[h]; rfl)) ?_; conv=>whnf)
 refine⟨fun h4=>?_,fun h4=>?_⟩
 ·conv=>whnf
  exact au.int (by rw[dn,h1,h2,h3,show ug p=true from h4]; rfl)
 replace h4:ug p=false:=h4
 have h0:0<p.states.length:=by
  rcases Nat.eq_zero_or_pos p.states.length with e|e
  ·rw[e] at h3; exact absurd h3 (by decide)
  ·exact e
 have hlen:(allNames p).length<2^30:=by simp only[allNames,List.length_append]; omega
 conv=>whnf
 repeat(refine VC.mk (by simp only[mD,lH,Rw.len,List.length_append]; omega) ?_; conv=>whnf)
 refine aJ.fz 3 57 0 (.strs (allNames p)) rfl rfl (ZW rfl rfl) ?_
 conv=>whnf
 refine aJ.same [1,3] (fun i:Nat=>[(4,.int i)]) (fun i=>i<=(allNames p).length/\(List.range i).any (LU (allNames p))=false) (fun i=>(allNames p).length-i) 0 rfl (by decide) rfl (fun _=>rfl) ⟨Nat.zero_le _,rfl⟩ ⟨⟨_,rfl,rfl⟩,trivial⟩ ?_
 conv=>whnf
 refine⟨rfl,?_⟩
 rintro i ⟨hi,hall⟩
 conv=>whnf
 refine⟨fun h5=>?_,fun h5=>?_⟩
 ·have hi':i<(allNames p).length:=by have:(i:Int)<((allNames p).length:Int):=of_decide_eq_true h5; omega
  conv=>whnf
  refine .mk (by simp only[Rw.rng] at *; omega) ?_
  conv=>whnf
  refine ah.pure (S.kF ((allNames p).getD i [])) rfl ?_
  conv=>whnf
  repeat(refine VC.mk (by first|exact id|exact fun h=>⟨h,h⟩|(intro h; (repeat' apply And.intro)<;>first|exact h|omega|(simp only[Rw.lg]; omega)|(simp only[Rw.rng]; omega))) ?_; conv=>whnf)
  refine ah.fP (fun _=>S.oV ((allNames p).take i) ((allNames p).getD i []) _ (by rw[List.length_take]; omega)) rfl ?_
  conv=>whnf
  refine .mk (by intro h; rw[h]; rfl) ?_
  conv=>whnf
  refine⟨fun h6=>?_,fun h6=>?_⟩
  ·conv=>whnf
   refine au.int ?_
   rw[dn,h1,h2,h3,h4,show yu p=2 by rw[yu,Ea.2 ⟨i,hi',h6⟩]; rfl]; rfl
  ·conv=>whnf
   refine .mk (by simp only[okI] at *; omega) ?_
   conv=>whnf
   refine⟨i+1,⟨by omega,?_⟩,by omega,⟨⟨_,rfl,rfl⟩,trivial⟩,?_,rfl⟩
   ·rw[List.range_succ,List.any_append,hall]
    simp only[List.any_cons,List.any_nil,Bool.or_false,Bool.false_or]; exact h6
   ·repeat' (first|exact trivial|exact⟨_,rfl,rfl⟩|constructor)
 have hi':(allNames p).length<=i:=by have: ¬ ((i:Int)<((allNames p).length:Int)):=of_decide_eq_false h5; omega
 have e:i=(allNames p).length:=Nat.le_antisymm hi hi'
 subst e
 have h5:yu p=0:=by rw[yu,hall]; rfl
 clear hi hall hi' hlen
 conv=>whnf
 repeat(refine VC.mk (by first|exact id|(intro h; rw[h]; rfl)|(intro h; simp[h]; done)|(intro h; simp_all; done)) ?_; conv=>whnf)
 refine⟨fun h6=>?_,fun h6=>?_⟩
 ·conv=>whnf
  exact au.int (by rw[dn,h1,h2,h3,h4,h5,show OD p=true from h6]; rfl)
 replace h6:OD p=false:=h6
 conv=>whnf
 refine aJ.same [1] (fun i:Nat=>[(5,.int i)]) (fun i=>i<=p.bU.length/\(p.bU.take i).any (fun l=> !(Ox l))=false) (fun i=>p.bU.length-i) 0 rfl (by decide) rfl (fun _=>rfl) ⟨by omega,by simp⟩ ⟨⟨_,rfl,rfl⟩,trivial⟩ ?_
 conv=>whnf
 refine⟨rfl,?_⟩
 rintro i ⟨hi,hall⟩
 conv=>whnf
 refine⟨fun h7=>?_,fun h7=>?_⟩
 ·have hi':i<p.bU.length:=by simpa using h7
  conv=>whnf
  refine .mk (by simp only[Rw.rng] at *; omega) ?_
  conv=>whnf
  refine ah.pure (S.yt (p.bU.getD i default)) rfl ?_
  conv=>whnf
  refine⟨fun h8=>?_,fun h8=>?_⟩
  ·conv=>whnf
   exact au.int (by rw[dn,h1,h2,h3,h4,h5,h6,jq (d:=default) hi' h8]; rfl)
  ·conv=>whnf
   refine .mk (by simp only[okI] at *; omega) ?_
   conv=>whnf
   refine⟨i+1,⟨by omega,?_⟩,by omega,⟨⟨_,rfl,rfl⟩,trivial⟩,?_,rfl⟩
   ·rw[lJ (d:=default) hi' hall]; exact h8
   ·repeat' (first|exact trivial|exact⟨_,rfl,rfl⟩|constructor)
 have hi':p.bU.length<=i:=by simpa using h7
 rw[List.take_of_length_le hi'] at hall
 clear hi hi' h7
 conv=>whnf
 refine ah.pure (S.jJ p.initial p.states.length false (by omega) ⟨by omega,by omega⟩) rfl ?_
 conv=>whnf
 refine⟨fun h7=>?_,fun h7=>?_⟩
 ·replace h7:=JB h7
  have:wu p=dU p.initial p.states.length:=fN h7
  conv=>whnf
  exact au.int (by rw[dn,h1,h2,h3,h4,h5,h6,hall,this,show(dU p.initial p.states.length !=0)=true by simpa using h7]; rfl)
 replace h7:=xw h7
 conv=>whnf
 refine⟨fun h8=>?_,fun h8=>?_⟩
 ·replace h8:((p.initial.length:Int)==0)=true:=h8
  have:wu p=1:=by rw[wu,h7,h8]; rfl
  conv=>whnf
  exact au.int (by rw[dn,h1,h2,h3,h4,h5,h6,hall,this]; rfl)
 replace h8:((p.initial.length:Int)==0)=false:=h8
 conv=>whnf
 refine ah.pure (S.jJ p.leader p.states.length false (by omega) ⟨by omega,by omega⟩) rfl ?_
 conv=>whnf
 refine⟨fun h9=>?_,fun h9=>?_⟩
 ·replace h9:=JB h9
  have:wu p=dU p.leader p.states.length:=by rw[wu,h7,h8]; exact fN h9
  conv=>whnf
  exact au.int (by rw[dn,h1,h2,h3,h4,h5,h6,hall,this,show(dU p.leader p.states.length !=0)=true by simpa using h9]; rfl)
 replace h9:=xw h9
 have h10:wu p=0:=by rw[wu,h7,h8,h9]; rfl
 conv=>whnf
 refine aJ.same [1] (fun i:Nat=>[(8,.int i)]) (fun i=>i<=p.rules.length/\Bo p=aQ (((List.range p.rules.length).drop i).map (fZ p))) (fun i=>p.rules.length-i) 0 rfl (by decide) rfl (fun _=>rfl) ⟨by omega,by simp[Bo]⟩ ⟨⟨_,rfl,rfl⟩,trivial⟩ ?_
 conv=>whnf
 refine⟨rfl,?_⟩
 rintro i ⟨hi,hr⟩
 conv=>whnf
 refine⟨fun h11=>?_,fun h11=>?_⟩
 ·have hi':i<p.rules.length:=by simpa using h11
  rw[IK hi'] at hr
  simp only[aQ] at hr
  conv=>whnf
  refine ah.pure (S.U6 p i hi' hp) rfl ?_
  conv=>whnf
  refine⟨fun h12=>?_,fun h12=>?_⟩
  ·conv=>whnf
   have abX:fZ p i≠0:=JB h12
   rw[if_neg abX] at hr
   exact au.int (by rw[dn,h1,h2,h3,h4,h5,h6,hall,h10,hr,show(fZ p i !=0)=true from h12]; rfl)
  ·conv=>whnf
   refine .mk (by simp only[okI] at *; omega) ?_
   conv=>whnf
   have abX:fZ p i=0:=xw h12
   rw[if_pos abX] at hr
   refine⟨i+1,⟨by omega,hr⟩,by omega,⟨⟨_,rfl,rfl⟩,trivial⟩,?_,rfl⟩
   repeat' (first|exact trivial|exact⟨_,rfl,rfl⟩|constructor)
 have hi':p.rules.length<=i:=by simpa using h11
 rw[List.drop_eq_nil_of_le (by simpa using hi')] at hr
 conv=>whnf
 refine ah.pure (S.qE p hp) rfl ?_
 conv=>whnf
 refine⟨fun h12=>?_,fun h12=>?_⟩
 ·conv=>whnf
  exact au.int (by rw[dn,h1,h2,h3,h4,h5,h6,hall,h10,hr,show decide (((xg p.rules).length:Int)>3)=true from h12]; rfl)
 ·conv=>whnf
  exact au.int (by rw[dn,h1,h2,h3,h4,h5,h6,hall,h10,hr,show decide (((xg p.rules).length:Int)>3)=false from h12]; rfl)
def OE(p:aU)(i:Nat):V:=.agg [.bool (((p.topology==1)&&((p.values.length:Int)==0))&&(p.rules.take i).foldl OG true),.bool (sF p&& !((p.rules.take i).foldl U7 false)),.bool ((p.topology==2)||(p.topology==3)),.bool (p.topology==4),.bool (sF p&&decide ((p.states.length:Int)<=4))]
def badR(r:Rule):Bool:=r.kind !=1||decide (r.fr>=r.to)||decide ((r.ex.length:Int)>0)||decide ((r.all.length:Int)>0)
theorem ZJ{acc:Bool}{r:Rule}(h:badR r=true):OG acc r=false:=by
 simp only[badR,Bool.or_eq_true,bne_iff_ne,decide_eq_true_eq] at h
 simp only[OG]
 rw[Bool.eq_false_iff]; intro q
 simp only[Bool.and_eq_true,beq_iff_eq,decide_eq_true_eq] at q
 omega
theorem abY{acc:Bool}{r:Rule}(h:badR r=false):OG acc r=acc:=by
 simp only[badR,Bool.or_eq_false_iff,bne_eq_false_iff_eq,decide_eq_false_iff_not] at h
 obtain⟨⟨⟨a,b⟩,c⟩,d⟩:=h
 simp only[OG]
 rw[show(r.kind==1)=true from beq_iff_eq.2 a,decide_eq_true (by omega),show((r.ex.length:Int)==0)=true from beq_iff_eq.2 (by omega),show((r.all.length:Int)==0)=true from beq_iff_eq.2 (by omega)]
 simp
theorem adN(p:aU):OE p 0= .agg [.bool ((p.topology==1)&&((p.values.length:Int)==0)),.bool (sF p),.bool ((p.topology==2)||(p.topology==3)),.bool (p.topology==4),.bool (sF p&&decide ((p.states.length:Int)<=4))]:=by
 simp[OE]
theorem DY(p:aU){i:Nat}(hi:i<p.rules.length):OE p (i+1) =
  .agg [.bool (bif badR (p.rules.getD i default) then false else((p.topology==1)&&((p.values.length:Int)==0))&&(p.rules.take i).foldl OG true),
   .bool (bif decide (((p.rules.getD i default).all.length:Int)>0) then false else sF p&& !((p.rules.take i).foldl U7 false)),.bool ((p.topology==2)||(p.topology==3)),.bool (p.topology==4),.bool (sF p&&decide ((p.states.length:Int)<=4))]:=by
 simp only[OE,zI (d:=default) hi]
 cases hb:badR (p.rules.getD i default) with
 |true =>
  rw[ZJ hb,U7]
  cases decide (((p.rules.getD i default).all.length:Int)>0)<;>simp
 |false =>
  rw[abY hb,U7]
  cases decide (((p.rules.getD i default).all.length:Int)>0)<;>simp
theorem S.pI(p:aU)(hp:dh p):ak Tryz.prog 41 [.dat (.dF p)] (EU p):=by
 have g1:=hp.states; have g2:=hp.messages; have g3:=hp.values; have g4:=hp.bU; have g7:=hp.rules
 refine ak.of Bd.pI (by simp) rfl rfl ?_
 conv=>whnf
 refine ah.pure (S.qG p hp) rfl ?_
 conv=>whnf
 refine⟨fun h1=>?_,fun h1=>?_⟩
 ·conv=>whnf
  refine au.eqv ?_
  rw[EU,h1]; rfl
 have h1':dn p=0:=xw h1
 conv=>whnf
 repeat(refine VC.mk (by first|exact id|(intro h; rw[h]; rfl)) ?_; conv=>whnf)
 refine aJ.objs 100 [1,2,7] (fun i:Nat=>[(8,.int i)]) (fun i=>[(0,.box 27 11 (.dat (.dF p))),(1,.box 81 6 (ac7 JA)),(58,.box 81 6 (OE p i))]) (fun i=>i<=p.rules.length) (fun i=>p.rules.length-i) 0 [0,1,58] rfl (by decide) (fun _=>rfl) (Nat.zero_le _) ?_ ?_ ?_
 ·exact⟨⟨_,rfl,.eq rfl⟩,trivial⟩
 ·refine⟨⟨rfl,nofun,rfl,rfl,rfl,_,rfl,rfl,rfl,bn.of_eq rfl⟩,⟨rfl,nofun,rfl,rfl,rfl,_,rfl,rfl,rfl,bn.of_eq rfl⟩,⟨rfl,nofun,rfl,rfl,rfl,_,rfl,rfl,rfl,bn.of_eq ?_⟩,trivial⟩
  rw[adN]; rfl
 conv=>whnf
 refine⟨⟨⟨_,rfl,.eq rfl⟩,⟨_,rfl,.eq rfl⟩,⟨_,rfl,.eq rfl⟩,trivial⟩,rfl,?_⟩
 rintro i hi
 have g8:=hp.rule i
 have g9:=g8.ex; have g10:=g8.all
 conv=>whnf
 refine⟨fun h3=>?_,fun h3=>?_⟩
 ·have hi':i<p.rules.length:=by simpa using h3
  conv=>whnf
  repeat(refine VC.mk (by first|exact id|exact fun h=>⟨h,h⟩|(intro h; rw[h]; rfl)|(simp only[Rw.rng] at *; omega)) ?_; conv=>whnf)
  refine⟨fun h4=>?_,fun h4=>?_⟩
  ·replace h4:badR (p.rules.getD i default)=true:=h4
   conv=>whnf
   refine⟨fun h5=>?_,fun h5=>?_⟩
   ·replace h5:decide (((p.rules.getD i default).all.length:Int)>0)=true:=h5
    conv=>whnf
    refine .mk (by simp only[okI] at *; omega) ?_
    conv=>whnf
    refine⟨i+1,[0,1,58],by omega,by omega,⟨⟨_,rfl,.eq rfl⟩,trivial⟩,⟨⟨_,rfl,.eq rfl⟩,⟨_,rfl,.eq rfl⟩,⟨_,rfl,.eq rfl⟩,trivial⟩,⟨rfl,nofun,rfl,rfl,rfl,_,rfl,rfl,rfl,bn.of_eq rfl⟩,⟨rfl,nofun,rfl,rfl,rfl,_,rfl,rfl,rfl,bn.of_eq rfl⟩,⟨rfl,nofun,rfl,rfl,rfl,_,rfl,rfl,rfl,bn.of_eq ?_⟩,trivial⟩
    rw[DY p hi',h4,h5]; rfl
   ·replace h5:decide (((p.rules.getD i default).all.length:Int)>0)=false:=h5
    conv=>whnf
    refine .mk (by simp only[okI] at *; omega) ?_
    conv=>whnf
    refine⟨i+1,[0,1,58],by omega,by omega,⟨⟨_,rfl,.eq rfl⟩,trivial⟩,⟨⟨_,rfl,.eq rfl⟩,⟨_,rfl,.eq rfl⟩,⟨_,rfl,.eq rfl⟩,trivial⟩,⟨rfl,nofun,rfl,rfl,rfl,_,rfl,rfl,rfl,bn.of_eq rfl⟩,⟨rfl,nofun,rfl,rfl,rfl,_,rfl,rfl,rfl,bn.of_eq rfl⟩,⟨rfl,nofun,rfl,rfl,rfl,_,rfl,rfl,rfl,bn.of_eq ?_⟩,trivial⟩
    rw[DY p hi',h4,h5]; rfl
  ·replace h4:badR (p.rules.getD i default)=false:=h4
   conv=>whnf
   refine⟨fun h5=>?_,fun h5=>?_⟩
   ·replace h5:decide (((p.rules.getD i default).all.length:Int)>0)=true:=h5
    conv=>whnf
    refine .mk (by simp only[okI] at *; omega) ?_
    conv=>whnf
    refine⟨i+1,[0,1,58],by omega,by omega,⟨⟨_,rfl,.eq rfl⟩,trivial⟩,⟨⟨_,rfl,.eq rfl⟩,⟨_,rfl,.eq rfl⟩,⟨_,rfl,.eq rfl⟩,trivial⟩,⟨rfl,nofun,rfl,rfl,rfl,_,rfl,rfl,rfl,bn.of_eq rfl⟩,⟨rfl,nofun,rfl,rfl,rfl,_,rfl,rfl,rfl,bn.of_eq rfl⟩,⟨rfl,nofun,rfl,rfl,rfl,_,rfl,rfl,rfl,bn.of_eq ?_⟩,trivial⟩
    rw[DY p hi',h4,h5]; rfl
   ·replace h5:decide (((p.rules.getD i default).all.length:Int)>0)=false:=h5
    conv=>whnf
    refine .mk (by simp only[okI] at *; omega) ?_
    conv=>whnf
    refine⟨i+1,[0,1,58],by omega,by omega,⟨⟨_,rfl,.eq rfl⟩,trivial⟩,⟨⟨_,rfl,.eq rfl⟩,⟨_,rfl,.eq rfl⟩,⟨_,rfl,.eq rfl⟩,trivial⟩,⟨rfl,nofun,rfl,rfl,rfl,_,rfl,rfl,rfl,bn.of_eq rfl⟩,⟨rfl,nofun,rfl,rfl,rfl,_,rfl,rfl,rfl,bn.of_eq rfl⟩,⟨rfl,nofun,rfl,rfl,rfl,_,rfl,rfl,rfl,bn.of_eq ?_⟩,trivial⟩
    rw[DY p hi',h4,h5]; rfl
 have hi':p.rules.length<=i:=by simpa using h3
 have e:i=p.rules.length:=Nat.le_antisymm hi hi'
 subst e
 conv=>whnf
 refine au.eqv ?_
 rw[EU,h1',jQ]
 simp only[List.take_length]
 rfl
theorem RU{x:Int}:(decide (x<0)||decide (1048576<x))= !(IW x):=by
 unfold IW; rw[Bool.eq_iff_iff]; simp
theorem S.wF(e:Elem)(hl:e.counts.length<2^40):ak Tryz.prog 74 [.dat (.elem e)] (.int (nD e)):=by
 refine ak.of Bd.wF (by simp) rfl rfl ?_
 conv=>whnf
 refine⟨fun h1=>?_,fun h1=>?_⟩
 ·have h:6<e.counts.length:=by
   have:(6:Int)<e.counts.length:=of_decide_eq_true h1
   omega
  conv=>whnf
  exact au.int (by rw[nD,if_pos h])
 have h: ¬ 6<e.counts.length:=by
  have: ¬ (6:Int)<e.counts.length:=of_decide_eq_false h1
  omega
 conv=>whnf
 refine aJ.same [1] (fun i:Nat=>[(4,.int i),(3,.int (e.counts.take i).sum)]) (fun i=>i<=e.counts.length/\(e.counts.take i).all IW=true) (fun i=>e.counts.length-i) 0 rfl (by decide) rfl (fun _=>rfl) ⟨by omega,by simp⟩ ⟨⟨_,rfl,rfl⟩,⟨_,rfl,rfl⟩,trivial⟩ ?_
 conv=>whnf
 refine⟨rfl,?_⟩
 rintro i ⟨hi,hall⟩
 have hb:=zX hall
 have hb':((e.counts.take i).length:Int)<=6:=by simp; omega
 conv=>whnf
 refine⟨fun h3=>?_,fun h3=>?_⟩
 ·have hi':i<e.counts.length:=by simpa using h3
  have hs:=Nu hi'
  conv=>whnf
  repeat(refine VC.mk (by first|exact id|(intro h; rw[h]; rfl)|(intro h; (repeat' apply And.intro)<;>first|exact h|omega|(simp only[Rw.lg]; omega)|(simp only[Rw.rng]; omega))|(simp only[Rw.rng] at *; omega)) ?_; conv=>whnf)
  refine⟨fun h4=>?_,fun h4=>?_⟩
  ·conv=>whnf
   replace h4:(decide (e.counts.getD i 0<0)||decide (1048576<e.counts.getD i 0))=true:=h4
   rw[RU] at h4
   exact au.int (by rw[nD,if_neg h,mM (d:=0) hi' (by simpa using h4)]; rfl)
  ·replace h4:(decide (e.counts.getD i 0<0)||decide (1048576<e.counts.getD i 0))=false:=h4
   rw[RU] at h4
   have h4':IW (e.counts.getD i 0)=true:=by simpa using h4
   have aao:(e.counts.take (i+1)).all IW=true:=by rw[nG (d:=0) hi' hall]; exact h4'
   have hc:=zX aao
   have hc':((e.counts.take (i+1)).length:Int)<=6:=by simp; omega
   conv=>whnf
   repeat(refine VC.mk (by first|(simp only[okI,Int.toNat_natCast] at *; rw[<- hs]; omega)|(simp only[okI,Rw.rng] at *; omega)) ?_; conv=>whnf)
   refine⟨i+1,⟨by omega,aao⟩,by omega,⟨⟨_,rfl,rfl⟩,⟨_,rfl,?_⟩,trivial⟩,?_,rfl⟩
   ·rw[hs]; simp[V.aG,qU]
   ·repeat' (first|exact trivial|exact⟨_,rfl,rfl⟩|constructor)
 ·have hi':e.counts.length<=i:=by simpa using h3
  rw[List.take_of_length_le hi'] at hall
  rw[List.take_of_length_le hi']
  conv=>whnf
  exact au.int (by rw[nD,if_neg h,if_pos hall])
end Go.Proofs.YtbfhebmdcpmfaaaGreatDoor
