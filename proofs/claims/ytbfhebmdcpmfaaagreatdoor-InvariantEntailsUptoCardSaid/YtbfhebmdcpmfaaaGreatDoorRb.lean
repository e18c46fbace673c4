/-
 The two programs' rules for a protocol's rules say the same. No condition.
-/
import Derived.Test.YtbfhebmdcpmfaaaGreatDoorRa
import Derived.Test.YtbfhebmdcpmfaaaGreatDoorLf
namespace Go.Proofs.YtbfhebmdcpmfaaaGreatDoor
open Go.Ab Go.Proofs
theorem Bh{x n:Int}:(!(iG x 0 (n-1)))=nR x n:=by rw[mV,Bool.not_not]
theorem vals_eq(p:aW)(r:Rule):xQ p r=((decide (r.read< -1)||decide (r.read>=p.values.length))||(decide (r.write< -1)||decide (r.write>=p.values.length))):=by
 simp only[xQ,Bh,nR]
 rw[Bool.eq_iff_iff]; simp; omega
theorem WI(a b:Bool)(v:Int)(r:List Int)(h:v≠0):aQ (dX (a||b) v::r)=aQ (dX a v::dX b v::r):=by
 cases a<;>cases b<;>simp[dX,aQ,h]
theorem KI(p:aW)(l:List xY)(r:List Int):aQ (uS p l::r)=aQ (jD p l::dX (decide ((l.length:Int)>2)) 4::r):=by
 by_cases h:jD p l=0
 ·rw[show uS p l=dX (decide ((l.length:Int)>2)) 4 from if_pos h,h]; rfl
 ·rw[show uS p l=jD p l from if_neg h,fN h,fN h]
theorem Qc{c d:Bool}:(bif c then true else d)=(c||d):=by cases c<;>rfl
theorem len_nil{α:Type}{l:List α}(h:decide ((l.length:Int)>0)=false):l=[]:=by
 cases l with
 |nil=>rfl
 |cons a r=>simp at h
theorem IE{r:Rule}{t:Int}(h:kR r t=false) :
  (r.kind≠1->r.guards=[]/\r.ex=[]/\r.all=[]/\r.send=[])/\(r.kind≠1->r.kind≠2->r.kind≠3->r.read= -1/\r.write= -1) /\
  (r.kind≠3->r.response=[])/\(r.kind≠5->r.direction=0)/\(r.kind≠4->r.pos=0/\r.left=[]/\r.right=[])/\(¬(r.kind=4/\t=4)->r.parent=[]):=by
 simp only[kR,Qc,Bool.or_eq_false_iff] at h
 obtain⟨h1,h2,h3,⟨h4,h5⟩,h6,h7⟩:=h
 refine⟨fun k=>?_,fun k1 k2 k3=>?_,fun k=>?_,fun k=>?_,fun k=>?_,fun k=>?_⟩
 ·simp only[beq_eq_false_iff_ne.2 k,Bool.not_false,Bool.true_and,Bool.or_eq_false_iff] at h1
  exact⟨len_nil h1.1.1.1,len_nil h1.1.1.2,len_nil h1.1.2,len_nil h1.2⟩
 ·simp only[beq_eq_false_iff_ne.2 k1,beq_eq_false_iff_ne.2 k2,beq_eq_false_iff_ne.2 k3,Bool.not_false,Bool.true_and,Bool.or_eq_false_iff] at h2
  exact⟨Ol h2.1,Ol h2.2⟩
 ·simp only[beq_eq_false_iff_ne.2 k,Bool.not_false,Bool.true_and] at h4
  exact len_nil h4
 ·simp only[beq_eq_false_iff_ne.2 k,Bool.not_false,Bool.true_and] at h5
  exact Ol h5
 ·simp only[beq_eq_false_iff_ne.2 k,Bool.not_false,Bool.true_and,Bool.or_eq_false_iff] at h6
  exact⟨Ol h6.1.1,len_nil h6.1.2,len_nil h6.2⟩
 ·refine len_nil ?_
  rw[Bool.and_eq_false_iff] at h7
  rcases h7 with h7|h7
  ·exact h7
  ·simp only[Bool.not_eq_false',Bool.and_eq_true,beq_iff_eq] at h7
   exact absurd h7 k
theorem kind_eq{r:Rule}{t:Int}:((!(iG r.kind 1 5)||(decide (r.kind<=3) !=(t==1)))||kR r t)=(!(rO r.kind t)||jP r t):=by
 by_cases hk:1<=r.kind/\r.kind<=5
 ·rw[yh hk]
  congr 1
  have hk':r.kind=1\/r.kind=2\/r.kind=3\/r.kind=4\/r.kind=5:=by omega
  rcases hk' with e|e|e|e|e<;>rw[e]<;>cases ht:(t==1)<;>simp[iG,rO,ht]
 ·have h1:iG r.kind 1 5=false:=by rw[iG,Bool.and_eq_false_iff]; simp; omega
  have h2:rO r.kind t=false:=by
   have:r.kind≠1/\r.kind≠2/\r.kind≠3/\r.kind≠4/\r.kind≠5:=by omega
   obtain⟨a,b,c,d,e⟩:=this
   simp[rO,a,b,c,d,e]
  rw[h1,h2]; rfl
theorem ES(p:aW)(r:Rule):(uh p r !=0)=(nR r.fr p.states.length||nR r.to p.states.length):=by
 simp only[uh,bU]
 cases nR r.fr p.states.length<;>cases nR r.to p.states.length<;>rfl
theorem aaV(p:aW)(r:Rule)(h:(uh p r !=0)=true):uh p r=5:=by
 rw[ES] at h
 simp only[uh,bU]
 revert h
 cases nR r.fr p.states.length<;>cases nR r.to p.states.length<;>intro h<;>first|rfl|cases h
theorem yV(n:Int):dR [] n=0:=rfl
theorem Ub(x:Int):aQ [x,0,0,0,0,0,0]=aQ [x]:=by
 simp only[aQ]; simp
theorem Ad{a:Int}{X Y:List Int}(h:aQ X=aQ Y):aQ (a::X)=aQ (a::Y):=by simp only[aQ,h]
theorem PW(x:Int):aQ [x,0,0,0,0,0,0,0]=aQ [x]:=by
 simp only[aQ]; simp
theorem PX(x:Int):aQ [x,0,0]=aQ [x]:=by
 simp only[aQ]; simp
theorem Ht(p:aW)(r:Rule):aQ [dX (xQ p r) 5,0,0,0,0,0,0,0]=aQ [jd p r.read,jd p r.write]:=by
 rw[vals_eq,WI _ _ _ _ (by decide)]
 exact Ad (PW _)
theorem WJ(p:aW)(i:Nat):wK p i=fO p i:=by
 simp only[wK,fO,pK,oK]
 generalize p.rules.getD i default=r
 cases hv:validName r.name with
 |false=>rfl
 |true =>
 cases ha:(p.rules.take i).any (fun x=>x.name==r.name) with
 |true=>rfl
 |false =>
 simp only[EH,kind_eq,Bool.not_true,Bool.or_false,cond_false]
 cases hk:(!(rO r.kind p.topology)||jP r p.topology) with
 |true=>rfl
 |false =>
 have hk2:=hk
 rw[<- kind_eq,Bool.or_eq_false_iff,Bool.or_eq_false_iff,Bool.not_eq_false'] at hk2
 obtain⟨⟨k1,_⟩,k2⟩:=hk2
 obtain⟨u1,u2,u3,u4,u5,u6⟩:=IE k2
 have hk':r.kind=1\/r.kind=2\/r.kind=3\/r.kind=4\/r.kind=5:=by
  simp only[iG,Bool.and_eq_true,decide_eq_true_eq] at k1; omega
 cases he:(uh p r !=0) with
 |true =>
  rw[aaV p r he]
  rw[ES] at he
  simp only[EG,Bh,he]; rfl
 |false =>
 rw[ES] at he
 simp only[EG,Bh,he,Bool.false_or,cond_false]
 rcases hk' with e|e|e|e|e
 ·have a5:=u5 (by omega)
  have m4:Bc p r=false:=by simp[Bc,e]
  have d1:Bf p r=false:=by simp[Bf,e]
  have d2:Bg p r=false:=by simp[Bg,e]
  simp only[fU,m4,d1,d2,a5.2.1,a5.2.2,u6 (by omega),e,yV,Int.reduceBEq,Bool.or_self,Bool.false_and,cond_false,cond_true]
  rw[KI]
  refine Ad (Ad (Ad (Ad ?_)))
  rw[vals_eq,WI _ _ _ _ (by decide)]
  refine Ad (Ad ?_)
  exact Ub _
 ·obtain⟨g1,g2,g3,g4⟩:=u1 (by omega)
  have a5:=u5 (by omega)
  have m4:Bc p r=false:=by simp[Bc,e]
  have d1:Bf p r=false:=by simp[Bf,e]
  have d2:Bg p r=false:=by simp[Bg,e]
  simp only[fU,m4,d1,d2,g1,g2,g3,g4,a5.2.1,a5.2.2,u6 (by omega),e,yV,Int.reduceBEq,Bool.or_false,Bool.true_and,cond_false,cond_true,bU]
  cases nR r.iQ p.states.length with
  |true=>rfl
  |false =>
   cases nR r.BA p.states.length with
   |true=>rfl
   |false=>exact Ht p r
 ·obtain⟨g1,g2,g3,g4⟩:=u1 (by omega)
  have a5:=u5 (by omega)
  have m4:Bc p r=false:=by simp[Bc,e]
  have d1:Bf p r=false:=by simp[Bf,e]
  have d2:Bg p r=false:=by simp[Bg,e]
  simp only[fU,m4,d1,d2,g1,g2,g3,g4,a5.2.1,a5.2.2,u6 (by omega),e,yV,Int.reduceBEq,Bool.or_self,Bool.false_and,cond_false,cond_true,BG]
  cases ((r.response.length:Int) !=p.states.length) with
  |true=>rfl
  |false =>
   simp only[cond_false]
   by_cases hz:nS r.response p.states.length=0
   ·rw[hz]; exact Ht p r
   ·rw[show(nS r.response p.states.length !=0)=true by simpa using hz,fN hz]; rfl
 ·obtain⟨g1,g2,g3,g4⟩:=u1 (by omega)
  obtain⟨v1,v2⟩:=u2 (by omega) (by omega) (by omega)
  have m4:Bc p r=WL p r:=by
   simp only[Bc,WL,e,oG]; rfl
  have d1:Bf p r=false:=by simp[Bf,e]
  have d2:Bg p r=false:=by simp[Bg,e]
  have vv:xQ p r=false:=by simp[xQ,v1,v2]
  simp only[fU,m4,d1,d2,vv,g1,g2,g3,g4,e,yV,Int.reduceBEq,Bool.or_self,Bool.false_and,cond_false,cond_true]
  exact Ad (Ad (Ad (PX _)))
 ·obtain⟨g1,g2,g3,g4⟩:=u1 (by omega)
  obtain⟨v1,v2⟩:=u2 (by omega) (by omega) (by omega)
  have a5:=u5 (by omega)
  have m4:Bc p r=false:=by simp[Bc,e]
  have vv:xQ p r=false:=by simp[xQ,v1,v2]
  have d1:Bf p r=((p.topology==4)&&(decide (r.direction<3)||decide (r.direction>4))):=by
   simp only[Bf,e,oG]; rfl
  have d2:Bg p r=(!(p.topology==4)&&(decide (r.direction<1)||decide (r.direction>2))):=by
   simp only[Bg,e,oG]; rfl
  simp only[fU,m4,d1,d2,vv,g1,g2,g3,g4,a5.2.1,a5.2.2,u6 (by omega),e,yV,Int.reduceBEq,Bool.or_true,Bool.true_and,cond_false,bU]
  cases nR r.iQ p.states.length with
  |true=>cases (p.topology==4)<;>rfl
  |false =>
   cases nR r.BA p.states.length with
   |true=>cases (p.topology==4)<;>rfl
   |false =>
    cases (p.topology==4) with
    |true=>cases (decide (r.direction<3)||decide (r.direction>4))<;>rfl
    |false=>cases (decide (r.direction<1)||decide (r.direction>2))<;>rfl
theorem WM{p:aW}:(!(iG p.topology 1 4)|| !(iG p.fault 0 3))=rM p:=by
 simp only[oG,rM,Bool.or_assoc]
theorem S.Uc(p:aW)(i:Nat)(hi:i<p.rules.length)(hp:dD p):ak Tryz.prog 91 [.dat (.dJ p),.int i] (.int (fO p i)):=by
 rw[<- WJ]; exact S.yU p i hi hp
theorem YO{h:Hz}{j:Nat}{Z:Nat->Prop}{l:List Str}(hz:Z j)(q:h.get j=some (.row 9 0 (.strs l) [])):T.sub Z h.aj (V.row 0 false (.strs l)).aG (V.own j).aG:=by
 show T.sub Z h.aj (.sl 0 false (l.map eS)) (.own j)
 simp only[T.sub]
 refine⟨trivial,hz,?_,by decide,9,?_⟩
 ·rw[gU]; intro t ht; obtain⟨x,_,rfl⟩:=List.mem_map.1 ht; rfl
 ·have:=aH q
  rw[this]; simp[OV.aF,Rw.aT,V.aT]
theorem S.pO(p:aW)(hp:dD p):ak Tryz.prog 63 [.dat (.dJ p)] (.int (cO p)):=by
 have g1:=hp.states; have g2:=hp.messages; have g3:=hp.values; have g4:=hp.bT; have g5:=hp.initial; have g6:=hp.leader; have g7:=hp.rules
 refine ak.of Bd.pO (by simp) rfl rfl ?_
 conv=>whnf
 refine ah.pure (S.jW p.name) rfl ?_
 conv=>whnf
 refine⟨fun h1=>?_,fun h1=>?_⟩
 ·conv=>whnf
  exact au.int (by rw[cO,h1]; rfl)
 conv=>whnf
 refine ah.pure (S.aX p.topology 1 4) rfl ?_
 conv=>whnf
 repeat(refine VC.mk id ?_; conv=>whnf)
 refine ah.fJ (fun _=>S.aX p.fault 0 3) rfl ?_
 conv=>whnf
 repeat(refine VC.mk (by first|exact id|(intro h; rw[h]; rfl)) ?_; conv=>whnf)
 refine⟨fun h2=>?_,fun h2=>?_⟩
 ·conv=>whnf
  rw[WM] at h2
  exact au.int (by rw[cO,h1,h2]; rfl)
 rw[WM] at h2
 conv=>whnf
 refine⟨fun h3=>?_,fun h3=>?_⟩
 ·conv=>whnf
  exact au.int (by rw[cO,h1,h2,show((p.states.length:Int)==0)=true from h3]; rfl)
 replace h3:((p.states.length:Int)==0)=false:=h3
 conv=>whnf
 repeat(refine VC.mk (by first|exact id|(intro h; rw[h]; rfl)) ?_; conv=>whnf)
 refine⟨fun h4=>?_,fun h4=>?_⟩
 ·conv=>whnf
  exact au.int (by rw[cO,h1,h2,h3,show sV p=true from h4]; rfl)
 replace h4:sV p=false:=h4
 have h0:0<p.states.length:=by
  rcases Nat.eq_zero_or_pos p.states.length with e|e
  ·rw[e] at h3; exact absurd h3 (by decide)
  ·exact e
 have hlen:(allNames p).length<2^30:=by simp only[allNames,List.length_append]; omega
 conv=>whnf
 repeat(refine VC.mk (by simp only[mW,lS,Rw.len,List.length_append]; omega) ?_; conv=>whnf)
 refine aP.fz 3 57 0 (.strs (allNames p)) rfl rfl (YO rfl rfl) ?_
 conv=>whnf
 refine aP.same [1,3] (fun i:Nat=>[(4,.int i)]) (fun i=>i<=(allNames p).length/\(List.range i).any (KJ (allNames p))=false) (fun i=>(allNames p).length-i) 0 rfl (by decide) rfl (fun _=>rfl) ⟨Nat.zero_le _,rfl⟩ ⟨⟨_,rfl,rfl⟩,trivial⟩ ?_
 conv=>whnf
 refine⟨rfl,?_⟩
 rintro i ⟨hi,hall⟩
 conv=>whnf
 refine⟨fun h5=>?_,fun h5=>?_⟩
 ·have hi':i<(allNames p).length:=by have:(i:Int)<((allNames p).length:Int):=of_decide_eq_true h5; omega
  conv=>whnf
  refine .mk (by simp only[Rw.rng] at *; omega) ?_
  conv=>whnf
  refine ah.pure (S.jW ((allNames p).getD i [])) rfl ?_
  conv=>whnf
  repeat(refine VC.mk (by first|exact id|exact fun h=>⟨h,h⟩|(intro h; (repeat' apply And.intro)<;>first|exact h|omega|(simp only[Rw.lT]; omega)|(simp only[Rw.rng]; omega))) ?_; conv=>whnf)
  refine ah.fJ (fun _=>S.oD ((allNames p).take i) ((allNames p).getD i []) _ (by rw[List.length_take]; omega)) rfl ?_
  conv=>whnf
  refine .mk (by intro h; rw[h]; rfl) ?_
  conv=>whnf
  refine⟨fun h6=>?_,fun h6=>?_⟩
  ·conv=>whnf
   refine au.int ?_
   rw[cO,h1,h2,h3,h4,show xH p=2 by rw[xH,Dp.2 ⟨i,hi',h6⟩]; rfl]; rfl
  ·conv=>whnf
   refine .mk (by simp only[okI] at *; omega) ?_
   conv=>whnf
   refine⟨i+1,⟨by omega,?_⟩,by omega,⟨⟨_,rfl,rfl⟩,trivial⟩,?_,rfl⟩
   ·rw[List.range_succ,List.any_append,hall]
    simp only[List.any_cons,List.any_nil,Bool.or_false,Bool.false_or]; exact h6
   ·repeat' (first|exact trivial|exact⟨_,rfl,rfl⟩|constructor)
 have hi':(allNames p).length<=i:=by have: ¬ ((i:Int)<((allNames p).length:Int)):=of_decide_eq_false h5; omega
 have e:i=(allNames p).length:=Nat.le_antisymm hi hi'
 subst e
 have h5:xH p=0:=by rw[xH,hall]; rfl
 clear hi hall hi' hlen
 conv=>whnf
 repeat(refine VC.mk (by first|exact id|(intro h; rw[h]; rfl)|(intro h; simp[h]; done)|(intro h; simp_all; done)) ?_; conv=>whnf)
 refine⟨fun h6=>?_,fun h6=>?_⟩
 ·conv=>whnf
  exact au.int (by rw[cO,h1,h2,h3,h4,h5,show NK p=true from h6]; rfl)
 replace h6:NK p=false:=h6
 conv=>whnf
 refine aP.same [1] (fun i:Nat=>[(5,.int i)]) (fun i=>i<=p.bT.length/\(p.bT.take i).any (fun l=> !(NC l))=false) (fun i=>p.bT.length-i) 0 rfl (by decide) rfl (fun _=>rfl) ⟨by omega,by simp⟩ ⟨⟨_,rfl,rfl⟩,trivial⟩ ?_
 conv=>whnf
 refine⟨rfl,?_⟩
 rintro i ⟨hi,hall⟩
 conv=>whnf
 refine⟨fun h7=>?_,fun h7=>?_⟩
 ·have hi':i<p.bT.length:=by simpa using h7
  conv=>whnf
  refine .mk (by simp only[Rw.rng] at *; omega) ?_
  conv=>whnf
  refine ah.pure (S.xG (p.bT.getD i default)) rfl ?_
  conv=>whnf
  refine⟨fun h8=>?_,fun h8=>?_⟩
  ·conv=>whnf
   exact au.int (by rw[cO,h1,h2,h3,h4,h5,h6,je (d:=default) hi' h8]; rfl)
  ·conv=>whnf
   refine .mk (by simp only[okI] at *; omega) ?_
   conv=>whnf
   refine⟨i+1,⟨by omega,?_⟩,by omega,⟨⟨_,rfl,rfl⟩,trivial⟩,?_,rfl⟩
   ·rw[kY (d:=default) hi' hall]; exact h8
   ·repeat' (first|exact trivial|exact⟨_,rfl,rfl⟩|constructor)
 have hi':p.bT.length<=i:=by simpa using h7
 rw[List.take_of_length_le hi'] at hall
 clear hi hi' h7
 conv=>whnf
 refine ah.pure (S.jC p.initial p.states.length false (by omega) ⟨by omega,by omega⟩) rfl ?_
 conv=>whnf
 refine⟨fun h7=>?_,fun h7=>?_⟩
 ·replace h7:=IX h7
  have:vH p=dR p.initial p.states.length:=fN h7
  conv=>whnf
  exact au.int (by rw[cO,h1,h2,h3,h4,h5,h6,hall,this,show(dR p.initial p.states.length !=0)=true by simpa using h7]; rfl)
 replace h7:=xI h7
 conv=>whnf
 refine⟨fun h8=>?_,fun h8=>?_⟩
 ·replace h8:((p.initial.length:Int)==0)=true:=h8
  have:vH p=1:=by rw[vH,h7,h8]; rfl
  conv=>whnf
  exact au.int (by rw[cO,h1,h2,h3,h4,h5,h6,hall,this]; rfl)
 replace h8:((p.initial.length:Int)==0)=false:=h8
 conv=>whnf
 refine ah.pure (S.jC p.leader p.states.length false (by omega) ⟨by omega,by omega⟩) rfl ?_
 conv=>whnf
 refine⟨fun h9=>?_,fun h9=>?_⟩
 ·replace h9:=IX h9
  have:vH p=dR p.leader p.states.length:=by rw[vH,h7,h8]; exact fN h9
  conv=>whnf
  exact au.int (by rw[cO,h1,h2,h3,h4,h5,h6,hall,this,show(dR p.leader p.states.length !=0)=true by simpa using h9]; rfl)
 replace h9:=xI h9
 have h10:vH p=0:=by rw[vH,h7,h8,h9]; rfl
 conv=>whnf
 refine aP.same [1] (fun i:Nat=>[(8,.int i)]) (fun i=>i<=p.rules.length/\Ah p=aQ (((List.range p.rules.length).drop i).map (fO p))) (fun i=>p.rules.length-i) 0 rfl (by decide) rfl (fun _=>rfl) ⟨by omega,by simp[Ah]⟩ ⟨⟨_,rfl,rfl⟩,trivial⟩ ?_
 conv=>whnf
 refine⟨rfl,?_⟩
 rintro i ⟨hi,hr⟩
 conv=>whnf
 refine⟨fun h11=>?_,fun h11=>?_⟩
 ·have hi':i<p.rules.length:=by simpa using h11
  rw[Hu hi'] at hr
  simp only[aQ] at hr
  conv=>whnf
  refine ah.pure (S.Uc p i hi' hp) rfl ?_
  conv=>whnf
  refine⟨fun h12=>?_,fun h12=>?_⟩
  ·conv=>whnf
   have aaW:fO p i≠0:=IX h12
   rw[if_neg aaW] at hr
   exact au.int (by rw[cO,h1,h2,h3,h4,h5,h6,hall,h10,hr,show(fO p i !=0)=true from h12]; rfl)
  ·conv=>whnf
   refine .mk (by simp only[okI] at *; omega) ?_
   conv=>whnf
   have aaW:fO p i=0:=xI h12
   rw[if_pos aaW] at hr
   refine⟨i+1,⟨by omega,hr⟩,by omega,⟨⟨_,rfl,rfl⟩,trivial⟩,?_,rfl⟩
   repeat' (first|exact trivial|exact⟨_,rfl,rfl⟩|constructor)
 have hi':p.rules.length<=i:=by simpa using h11
 rw[List.drop_eq_nil_of_le (by simpa using hi')] at hr
 conv=>whnf
 refine ah.pure (S.pJ p hp) rfl ?_
 conv=>whnf
 refine⟨fun h12=>?_,fun h12=>?_⟩
 ·conv=>whnf
  exact au.int (by rw[cO,h1,h2,h3,h4,h5,h6,hall,h10,hr,show decide (((wI p.rules).length:Int)>3)=true from h12]; rfl)
 ·conv=>whnf
  exact au.int (by rw[cO,h1,h2,h3,h4,h5,h6,hall,h10,hr,show decide (((wI p.rules).length:Int)>3)=false from h12]; rfl)
def NM(p:aW)(i:Nat):V:=.agg [.bool (((p.topology==1)&&((p.values.length:Int)==0))&&(p.rules.take i).foldl NP true),.bool (rF p&& !((p.rules.take i).foldl Ud false)),.bool ((p.topology==2)||(p.topology==3)),.bool (p.topology==4),.bool (rF p&&decide ((p.states.length:Int)<=4))]
def badR(r:Rule):Bool:=r.kind !=1||decide (r.fr>=r.to)||decide ((r.ex.length:Int)>0)||decide ((r.all.length:Int)>0)
theorem YB{acc:Bool}{r:Rule}(h:badR r=true):NP acc r=false:=by
 simp only[badR,Bool.or_eq_true,bne_iff_ne,decide_eq_true_eq] at h
 simp only[NP]
 rw[Bool.eq_false_iff]; intro q
 simp only[Bool.and_eq_true,beq_iff_eq,decide_eq_true_eq] at q
 omega
theorem aaX{acc:Bool}{r:Rule}(h:badR r=false):NP acc r=acc:=by
 simp only[badR,Bool.or_eq_false_iff,bne_eq_false_iff_eq,decide_eq_false_iff_not] at h
 obtain⟨⟨⟨a,b⟩,c⟩,d⟩:=h
 simp only[NP]
 rw[show(r.kind==1)=true from beq_iff_eq.2 a,decide_eq_true (by omega),show((r.ex.length:Int)==0)=true from beq_iff_eq.2 (by omega),show((r.all.length:Int)==0)=true from beq_iff_eq.2 (by omega)]
 simp
theorem acO(p:aW):NM p 0= .agg [.bool ((p.topology==1)&&((p.values.length:Int)==0)),.bool (rF p),.bool ((p.topology==2)||(p.topology==3)),.bool (p.topology==4),.bool (rF p&&decide ((p.states.length:Int)<=4))]:=by
 simp[NM]
theorem Dh(p:aW){i:Nat}(hi:i<p.rules.length):NM p (i+1) =
  .agg [.bool (bif badR (p.rules.getD i default) then false else((p.topology==1)&&((p.values.length:Int)==0))&&(p.rules.take i).foldl NP true),
   .bool (bif decide (((p.rules.getD i default).all.length:Int)>0) then false else rF p&& !((p.rules.take i).foldl Ud false)),.bool ((p.topology==2)||(p.topology==3)),.bool (p.topology==4),.bool (rF p&&decide ((p.states.length:Int)<=4))]:=by
 simp only[NM,yT (d:=default) hi]
 cases hb:badR (p.rules.getD i default) with
 |true =>
  rw[YB hb,Ud]
  cases decide (((p.rules.getD i default).all.length:Int)>0)<;>simp
 |false =>
  rw[aaX hb,Ud]
  cases decide (((p.rules.getD i default).all.length:Int)>0)<;>simp
theorem S.oO(p:aW)(hp:dD p):ak Tryz.prog 41 [.dat (.dJ p)] (Ee p):=by
 have g1:=hp.states; have g2:=hp.messages; have g3:=hp.values; have g4:=hp.bT; have g7:=hp.rules
 refine ak.of Bd.oO (by simp) rfl rfl ?_
 conv=>whnf
 refine ah.pure (S.pO p hp) rfl ?_
 conv=>whnf
 refine⟨fun h1=>?_,fun h1=>?_⟩
 ·conv=>whnf
  refine au.eqv ?_
  rw[Ee,h1]; rfl
 have h1':cO p=0:=xI h1
 conv=>whnf
 repeat(refine VC.mk (by first|exact id|(intro h; rw[h]; rfl)) ?_; conv=>whnf)
 refine aP.objs 100 [1,2,7] (fun i:Nat=>[(8,.int i)]) (fun i=>[(0,.box 27 11 (.dat (.dJ p))),(1,.box 81 6 (ab2 IW)),(58,.box 81 6 (NM p i))]) (fun i=>i<=p.rules.length) (fun i=>p.rules.length-i) 0 [0,1,58] rfl (by decide) (fun _=>rfl) (Nat.zero_le _) ?_ ?_ ?_
 ·exact⟨⟨_,rfl,.eq rfl⟩,trivial⟩
 ·refine⟨⟨rfl,nofun,rfl,rfl,rfl,_,rfl,rfl,rfl,bg.of_eq rfl⟩,⟨rfl,nofun,rfl,rfl,rfl,_,rfl,rfl,rfl,bg.of_eq rfl⟩,⟨rfl,nofun,rfl,rfl,rfl,_,rfl,rfl,rfl,bg.of_eq ?_⟩,trivial⟩
  rw[acO]; rfl
 conv=>whnf
 refine⟨⟨⟨_,rfl,.eq rfl⟩,⟨_,rfl,.eq rfl⟩,⟨_,rfl,.eq rfl⟩,trivial⟩,rfl,?_⟩
 rintro i hi
 have g8:=hp.rule i
 have g9:=g8.ex; have g10:=g8.all
 conv=>whnf
 refine⟨fun h3=>?_,fun h3=>?_⟩
 ·have hi':i<p.rules.length:=by simpa using h3
  conv=>whnf
  repeat(refine VC.mk (by first|exact id|exact fun h=>⟨h,h⟩|(intro h; rw[h]; rfl)|(simp only[Rw.rng] at *; omega)) ?_; conv=>whnf)
  refine⟨fun h4=>?_,fun h4=>?_⟩
  ·replace h4:badR (p.rules.getD i default)=true:=h4
   conv=>whnf
   refine⟨fun h5=>?_,fun h5=>?_⟩
   ·replace h5:decide (((p.rules.getD i default).all.length:Int)>0)=true:=h5
    conv=>whnf
    refine .mk (by simp only[okI] at *; omega) ?_
    conv=>whnf
    refine⟨i+1,[0,1,58],by omega,by omega,⟨⟨_,rfl,.eq rfl⟩,trivial⟩,⟨⟨_,rfl,.eq rfl⟩,⟨_,rfl,.eq rfl⟩,⟨_,rfl,.eq rfl⟩,trivial⟩,⟨rfl,nofun,rfl,rfl,rfl,_,rfl,rfl,rfl,bg.of_eq rfl⟩,⟨rfl,nofun,rfl,rfl,rfl,_,rfl,rfl,rfl,bg.of_eq rfl⟩,⟨rfl,nofun,rfl,rfl,rfl,_,rfl,rfl,rfl,bg.of_eq ?_⟩,trivial⟩
    rw[Dh p hi',h4,h5]; rfl
   ·replace h5:decide (((p.rules.getD i default).all.length:Int)>0)=false:=h5
    conv=>whnf
    refine .mk (by simp only[okI] at *; omega) ?_
    conv=>whnf
    refine⟨i+1,[0,1,58],by omega,by omega,⟨⟨_,rfl,.eq rfl⟩,trivial⟩,⟨⟨_,rfl,.eq rfl⟩,⟨_,rfl,.eq rfl⟩,⟨_,rfl,.eq rfl⟩,trivial⟩,⟨rfl,nofun,rfl,rfl,rfl,_,rfl,rfl,rfl,bg.of_eq rfl⟩,⟨rfl,nofun,rfl,rfl,rfl,_,rfl,rfl,rfl,bg.of_eq rfl⟩,⟨rfl,nofun,rfl,rfl,rfl,_,rfl,rfl,rfl,bg.of_eq ?_⟩,trivial⟩
    rw[Dh p hi',h4,h5]; rfl
  ·replace h4:badR (p.rules.getD i default)=false:=h4
   conv=>whnf
   refine⟨fun h5=>?_,fun h5=>?_⟩
   ·replace h5:decide (((p.rules.getD i default).all.length:Int)>0)=true:=h5
    conv=>whnf
    refine .mk (by simp only[okI] at *; omega) ?_
    conv=>whnf
    refine⟨i+1,[0,1,58],by omega,by omega,⟨⟨_,rfl,.eq rfl⟩,trivial⟩,⟨⟨_,rfl,.eq rfl⟩,⟨_,rfl,.eq rfl⟩,⟨_,rfl,.eq rfl⟩,trivial⟩,⟨rfl,nofun,rfl,rfl,rfl,_,rfl,rfl,rfl,bg.of_eq rfl⟩,⟨rfl,nofun,rfl,rfl,rfl,_,rfl,rfl,rfl,bg.of_eq rfl⟩,⟨rfl,nofun,rfl,rfl,rfl,_,rfl,rfl,rfl,bg.of_eq ?_⟩,trivial⟩
    rw[Dh p hi',h4,h5]; rfl
   ·replace h5:decide (((p.rules.getD i default).all.length:Int)>0)=false:=h5
    conv=>whnf
    refine .mk (by simp only[okI] at *; omega) ?_
    conv=>whnf
    refine⟨i+1,[0,1,58],by omega,by omega,⟨⟨_,rfl,.eq rfl⟩,trivial⟩,⟨⟨_,rfl,.eq rfl⟩,⟨_,rfl,.eq rfl⟩,⟨_,rfl,.eq rfl⟩,trivial⟩,⟨rfl,nofun,rfl,rfl,rfl,_,rfl,rfl,rfl,bg.of_eq rfl⟩,⟨rfl,nofun,rfl,rfl,rfl,_,rfl,rfl,rfl,bg.of_eq rfl⟩,⟨rfl,nofun,rfl,rfl,rfl,_,rfl,rfl,rfl,bg.of_eq ?_⟩,trivial⟩
    rw[Dh p hi',h4,h5]; rfl
 have hi':p.rules.length<=i:=by simpa using h3
 have e:i=p.rules.length:=Nat.le_antisymm hi hi'
 subst e
 conv=>whnf
 refine au.eqv ?_
 rw[Ee,h1',jJ]
 simp only[List.take_length]
 rfl
theorem QM{x:Int}:(decide (x<0)||decide (1048576<x))= !(H7 x):=by
 unfold H7; rw[Bool.eq_iff_iff]; simp
theorem S.vN(e:Elem)(hl:e.counts.length<2^40):ak Tryz.prog 74 [.dat (.elem e)] (.int (mM e)):=by
 refine ak.of Bd.vN (by simp) rfl rfl ?_
 conv=>whnf
 refine⟨fun h1=>?_,fun h1=>?_⟩
 ·have h:6<e.counts.length:=by
   have:(6:Int)<e.counts.length:=of_decide_eq_true h1
   omega
  conv=>whnf
  exact au.int (by rw[mM,if_pos h])
 have h: ¬ 6<e.counts.length:=by
  have: ¬ (6:Int)<e.counts.length:=of_decide_eq_false h1
  omega
 conv=>whnf
 refine aP.same [1] (fun i:Nat=>[(4,.int i),(3,.int (e.counts.take i).sum)]) (fun i=>i<=e.counts.length/\(e.counts.take i).all H7=true) (fun i=>e.counts.length-i) 0 rfl (by decide) rfl (fun _=>rfl) ⟨by omega,by simp⟩ ⟨⟨_,rfl,rfl⟩,⟨_,rfl,rfl⟩,trivial⟩ ?_
 conv=>whnf
 refine⟨rfl,?_⟩
 rintro i ⟨hi,hall⟩
 have hb:=zf hall
 have hb':((e.counts.take i).length:Int)<=6:=by simp; omega
 conv=>whnf
 refine⟨fun h3=>?_,fun h3=>?_⟩
 ·have hi':i<e.counts.length:=by simpa using h3
  have hs:=L8 hi'
  conv=>whnf
  repeat(refine VC.mk (by first|exact id|(intro h; rw[h]; rfl)|(intro h; (repeat' apply And.intro)<;>first|exact h|omega|(simp only[Rw.lT]; omega)|(simp only[Rw.rng]; omega))|(simp only[Rw.rng] at *; omega)) ?_; conv=>whnf)
  refine⟨fun h4=>?_,fun h4=>?_⟩
  ·conv=>whnf
   replace h4:(decide (e.counts.getD i 0<0)||decide (1048576<e.counts.getD i 0))=true:=h4
   rw[QM] at h4
   exact au.int (by rw[mM,if_neg h,lV (d:=0) hi' (by simpa using h4)]; rfl)
  ·replace h4:(decide (e.counts.getD i 0<0)||decide (1048576<e.counts.getD i 0))=false:=h4
   rw[QM] at h4
   have h4':H7 (e.counts.getD i 0)=true:=by simpa using h4
   have Ze:(e.counts.take (i+1)).all H7=true:=by rw[mO (d:=0) hi' hall]; exact h4'
   have hc:=zf Ze
   have hc':((e.counts.take (i+1)).length:Int)<=6:=by simp; omega
   conv=>whnf
   repeat(refine VC.mk (by first|(simp only[okI,Int.toNat_natCast] at *; rw[<- hs]; omega)|(simp only[okI,Rw.rng] at *; omega)) ?_; conv=>whnf)
   refine⟨i+1,⟨by omega,Ze⟩,by omega,⟨⟨_,rfl,rfl⟩,⟨_,rfl,?_⟩,trivial⟩,?_,rfl⟩
   ·rw[hs]; simp[V.aG,qA]
   ·repeat' (first|exact trivial|exact⟨_,rfl,rfl⟩|constructor)
 ·have hi':e.counts.length<=i:=by simpa using h3
  rw[List.take_of_length_le hi'] at hall
  rw[List.take_of_length_le hi']
  conv=>whnf
  exact au.int (by rw[mM,if_neg h,if_pos hall])
end Go.Proofs.YtbfhebmdcpmfaaaGreatDoor
