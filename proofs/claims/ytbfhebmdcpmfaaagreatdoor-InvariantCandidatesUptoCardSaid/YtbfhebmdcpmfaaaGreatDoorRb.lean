/-
 The two programs' rules for a protocol's rules say the same. No condition.
-/
import Derived.Test.YtbfhebmdcpmfaaaGreatDoorRa
import Derived.Test.YtbfhebmdcpmfaaaGreatDoorLf
namespace Go.Proofs.YtbfhebmdcpmfaaaGreatDoor
open Go.Ab Go.Proofs
theorem AY{x n:Int}:(!(iJ x 0 (n-1)))=nI x n:=by rw[mZ,Bool.not_not]
theorem vals_eq(p:aW)(r:Rule):xG p r=((decide (r.read< -1)||decide (r.read>=p.values.length))||(decide (r.write< -1)||decide (r.write>=p.values.length))):=by
 simp only[xG,AY,nI]
 rw[Bool.eq_iff_iff]; simp; omega
theorem V3(a b:Bool)(v:Int)(r:List Int)(h:v≠0):aQ (dU (a||b) v::r)=aQ (dU a v::dU b v::r):=by
 cases a<;>cases b<;>simp[dU,aQ,h]
theorem Kt(p:aW)(l:List xK)(r:List Int):aQ (uM p l::r)=aQ (jF p l::dU (decide ((l.length:Int)>2)) 4::r):=by
 by_cases h:jF p l=0
 ·rw[show uM p l=dU (decide ((l.length:Int)>2)) 4 from if_pos h,h]; rfl
 ·rw[show uM p l=jF p l from if_neg h,fN h,fN h]
theorem Px{c d:Bool}:(bif c then true else d)=(c||d):=by cases c<;>rfl
theorem len_nil{α:Type}{l:List α}(h:decide ((l.length:Int)>0)=false):l=[]:=by
 cases l with
 |nil=>rfl
 |cons a r=>simp at h
theorem Ij{r:Rule}{t:Int}(h:kV r t=false) :
  (r.kind≠1->r.guards=[]/\r.ex=[]/\r.all=[]/\r.send=[])/\(r.kind≠1->r.kind≠2->r.kind≠3->r.read= -1/\r.write= -1) /\
  (r.kind≠3->r.response=[])/\(r.kind≠5->r.direction=0)/\(r.kind≠4->r.pos=0/\r.left=[]/\r.right=[])/\(¬(r.kind=4/\t=4)->r.parent=[]):=by
 simp only[kV,Px,Bool.or_eq_false_iff] at h
 obtain⟨h1,h2,h3,⟨h4,h5⟩,h6,h7⟩:=h
 refine⟨fun k=>?_,fun k1 k2 k3=>?_,fun k=>?_,fun k=>?_,fun k=>?_,fun k=>?_⟩
 ·simp only[beq_eq_false_iff_ne.2 k,Bool.not_false,Bool.true_and,Bool.or_eq_false_iff] at h1
  exact⟨len_nil h1.1.1.1,len_nil h1.1.1.2,len_nil h1.1.2,len_nil h1.2⟩
 ·simp only[beq_eq_false_iff_ne.2 k1,beq_eq_false_iff_ne.2 k2,beq_eq_false_iff_ne.2 k3,Bool.not_false,Bool.true_and,Bool.or_eq_false_iff] at h2
  exact⟨NK h2.1,NK h2.2⟩
 ·simp only[beq_eq_false_iff_ne.2 k,Bool.not_false,Bool.true_and] at h4
  exact len_nil h4
 ·simp only[beq_eq_false_iff_ne.2 k,Bool.not_false,Bool.true_and] at h5
  exact NK h5
 ·simp only[beq_eq_false_iff_ne.2 k,Bool.not_false,Bool.true_and,Bool.or_eq_false_iff] at h6
  exact⟨NK h6.1.1,len_nil h6.1.2,len_nil h6.2⟩
 ·refine len_nil ?_
  rw[Bool.and_eq_false_iff] at h7
  rcases h7 with h7|h7
  ·exact h7
  ·simp only[Bool.not_eq_false',Bool.and_eq_true,beq_iff_eq] at h7
   exact absurd h7 k
theorem kind_eq{r:Rule}{t:Int}:((!(iJ r.kind 1 5)||(decide (r.kind<=3) !=(t==1)))||kV r t)=(!(rO r.kind t)||jT r t):=by
 by_cases hk:1<=r.kind/\r.kind<=5
 ·rw[xW hk]
  congr 1
  have hk':r.kind=1\/r.kind=2\/r.kind=3\/r.kind=4\/r.kind=5:=by omega
  rcases hk' with e|e|e|e|e<;>rw[e]<;>cases ht:(t==1)<;>simp[iJ,rO,ht]
 ·have h1:iJ r.kind 1 5=false:=by rw[iJ,Bool.and_eq_false_iff]; simp; omega
  have h2:rO r.kind t=false:=by
   have:r.kind≠1/\r.kind≠2/\r.kind≠3/\r.kind≠4/\r.kind≠5:=by omega
   obtain⟨a,b,c,d,e⟩:=this
   simp[rO,a,b,c,d,e]
  rw[h1,h2]; rfl
theorem Ez(p:aW)(r:Rule):(um p r !=0)=(nI r.fr p.states.length||nI r.to p.states.length):=by
 simp only[um,bT]
 cases nI r.fr p.states.length<;>cases nI r.to p.states.length<;>rfl
theorem aaL(p:aW)(r:Rule)(h:(um p r !=0)=true):um p r=5:=by
 rw[Ez] at h
 simp only[um,bT]
 revert h
 cases nI r.fr p.states.length<;>cases nI r.to p.states.length<;>intro h<;>first|rfl|cases h
theorem yR(n:Int):eF [] n=0:=rfl
theorem Ti(x:Int):aQ [x,0,0,0,0,0,0]=aQ [x]:=by
 simp only[aQ]; simp
theorem zY{a:Int}{X Y:List Int}(h:aQ X=aQ Y):aQ (a::X)=aQ (a::Y):=by simp only[aQ,h]
theorem Pg(x:Int):aQ [x,0,0,0,0,0,0,0]=aQ [x]:=by
 simp only[aQ]; simp
theorem Ph(x:Int):aQ [x,0,0]=aQ [x]:=by
 simp only[aQ]; simp
theorem G5(p:aW)(r:Rule):aQ [dU (xG p r) 5,0,0,0,0,0,0,0]=aQ [jk p r.read,jk p r.write]:=by
 rw[vals_eq,V3 _ _ _ _ (by decide)]
 exact zY (Pg _)
theorem V4(p:aW)(i:Nat):wH p i=fQ p i:=by
 simp only[wH,fQ,pq,oH]
 generalize p.rules.getD i default=r
 cases hv:validName r.name with
 |false=>rfl
 |true =>
 cases ha:(p.rules.take i).any (fun x=>x.name==r.name) with
 |true=>rfl
 |false =>
 simp only[Ee,kind_eq,Bool.not_true,Bool.or_false,cond_false]
 cases hk:(!(rO r.kind p.topology)||jT r p.topology) with
 |true=>rfl
 |false =>
 have hk2:=hk
 rw[<- kind_eq,Bool.or_eq_false_iff,Bool.or_eq_false_iff,Bool.not_eq_false'] at hk2
 obtain⟨⟨k1,_⟩,k2⟩:=hk2
 obtain⟨u1,u2,u3,u4,u5,u6⟩:=Ij k2
 have hk':r.kind=1\/r.kind=2\/r.kind=3\/r.kind=4\/r.kind=5:=by
  simp only[iJ,Bool.and_eq_true,decide_eq_true_eq] at k1; omega
 cases he:(um p r !=0) with
 |true =>
  rw[aaL p r he]
  rw[Ez] at he
  simp only[Ed,AY,he]; rfl
 |false =>
 rw[Ez] at he
 simp only[Ed,AY,he,Bool.false_or,cond_false]
 rcases hk' with e|e|e|e|e
 ·have a5:=u5 (by omega)
  have m4:AU p r=false:=by simp[AU,e]
  have d1:AV p r=false:=by simp[AV,e]
  have d2:AX p r=false:=by simp[AX,e]
  simp only[fZ,m4,d1,d2,a5.2.1,a5.2.2,u6 (by omega),e,yR,Int.reduceBEq,Bool.or_self,Bool.false_and,cond_false,cond_true]
  rw[Kt]
  refine zY (zY (zY (zY ?_)))
  rw[vals_eq,V3 _ _ _ _ (by decide)]
  refine zY (zY ?_)
  exact Ti _
 ·obtain⟨g1,g2,g3,g4⟩:=u1 (by omega)
  have a5:=u5 (by omega)
  have m4:AU p r=false:=by simp[AU,e]
  have d1:AV p r=false:=by simp[AV,e]
  have d2:AX p r=false:=by simp[AX,e]
  simp only[fZ,m4,d1,d2,g1,g2,g3,g4,a5.2.1,a5.2.2,u6 (by omega),e,yR,Int.reduceBEq,Bool.or_false,Bool.true_and,cond_false,cond_true,bT]
  cases nI r.iY p.states.length with
  |true=>rfl
  |false =>
   cases nI r.Bc p.states.length with
   |true=>rfl
   |false=>exact G5 p r
 ·obtain⟨g1,g2,g3,g4⟩:=u1 (by omega)
  have a5:=u5 (by omega)
  have m4:AU p r=false:=by simp[AU,e]
  have d1:AV p r=false:=by simp[AV,e]
  have d2:AX p r=false:=by simp[AX,e]
  simp only[fZ,m4,d1,d2,g1,g2,g3,g4,a5.2.1,a5.2.2,u6 (by omega),e,yR,Int.reduceBEq,Bool.or_self,Bool.false_and,cond_false,cond_true,Bh]
  cases ((r.response.length:Int) !=p.states.length) with
  |true=>rfl
  |false =>
   simp only[cond_false]
   by_cases hz:nS r.response p.states.length=0
   ·rw[hz]; exact G5 p r
   ·rw[show(nS r.response p.states.length !=0)=true by simpa using hz,fN hz]; rfl
 ·obtain⟨g1,g2,g3,g4⟩:=u1 (by omega)
  obtain⟨v1,v2⟩:=u2 (by omega) (by omega) (by omega)
  have m4:AU p r=V5 p r:=by
   simp only[AU,V5,e,oG]; rfl
  have d1:AV p r=false:=by simp[AV,e]
  have d2:AX p r=false:=by simp[AX,e]
  have vv:xG p r=false:=by simp[xG,v1,v2]
  simp only[fZ,m4,d1,d2,vv,g1,g2,g3,g4,e,yR,Int.reduceBEq,Bool.or_self,Bool.false_and,cond_false,cond_true]
  exact zY (zY (zY (Ph _)))
 ·obtain⟨g1,g2,g3,g4⟩:=u1 (by omega)
  obtain⟨v1,v2⟩:=u2 (by omega) (by omega) (by omega)
  have a5:=u5 (by omega)
  have m4:AU p r=false:=by simp[AU,e]
  have vv:xG p r=false:=by simp[xG,v1,v2]
  have d1:AV p r=((p.topology==4)&&(decide (r.direction<3)||decide (r.direction>4))):=by
   simp only[AV,e,oG]; rfl
  have d2:AX p r=(!(p.topology==4)&&(decide (r.direction<1)||decide (r.direction>2))):=by
   simp only[AX,e,oG]; rfl
  simp only[fZ,m4,d1,d2,vv,g1,g2,g3,g4,a5.2.1,a5.2.2,u6 (by omega),e,yR,Int.reduceBEq,Bool.or_true,Bool.true_and,cond_false,bT]
  cases nI r.iY p.states.length with
  |true=>cases (p.topology==4)<;>rfl
  |false =>
   cases nI r.Bc p.states.length with
   |true=>cases (p.topology==4)<;>rfl
   |false =>
    cases (p.topology==4) with
    |true=>cases (decide (r.direction<3)||decide (r.direction>4))<;>rfl
    |false=>cases (decide (r.direction<1)||decide (r.direction>2))<;>rfl
theorem V6{p:aW}:(!(iJ p.topology 1 4)|| !(iJ p.fault 0 3))=rM p:=by
 simp only[oG,rM,Bool.or_assoc]
theorem S.Tj(p:aW)(i:Nat)(hi:i<p.rules.length)(hp:dM p):au Tryz.prog 91 [.dat (.dw p),.int i] (.int (fQ p i)):=by
 rw[<- V4]; exact S.yQ p i hi hp
theorem Yx{h:Hz}{j:Nat}{Z:Nat->Prop}{l:List Str}(hz:Z j)(q:h.get j=some (.row 9 0 (.strs l) [])):T.sub Z h.aj (V.row 0 false (.strs l)).aG (V.own j).aG:=by
 show T.sub Z h.aj (.sl 0 false (l.map eS)) (.own j)
 simp only[T.sub]
 refine⟨trivial,hz,?_,by decide,9,?_⟩
 ·rw[gU]; intro t ht; obtain⟨x,_,rfl⟩:=List.mem_map.1 ht; rfl
 ·have:=aK q
  rw[this]; simp[OV.aC,Rw.aT,V.aT]
theorem S.pz(p:aW)(hp:dM p):au Tryz.prog 63 [.dat (.dw p)] (.int (cO p)):=by
 have g1:=hp.states; have g2:=hp.messages; have g3:=hp.values; have g4:=hp.bQ; have g5:=hp.initial; have g6:=hp.leader; have g7:=hp.rules
 refine au.of Bd.pz (by simp) rfl rfl ?_
 conv=>whnf
 refine ah.pure (S.jY p.name) rfl ?_
 conv=>whnf
 refine⟨fun h1=>?_,fun h1=>?_⟩
 ·conv=>whnf
  exact aA.int (by rw[cO,h1]; rfl)
 conv=>whnf
 refine ah.pure (S.aX p.topology 1 4) rfl ?_
 conv=>whnf
 repeat(refine VC.mk id ?_; conv=>whnf)
 refine ah.gZ (fun _=>S.aX p.fault 0 3) rfl ?_
 conv=>whnf
 repeat(refine VC.mk (by first|exact id|(intro h; rw[h]; rfl)) ?_; conv=>whnf)
 refine⟨fun h2=>?_,fun h2=>?_⟩
 ·conv=>whnf
  rw[V6] at h2
  exact aA.int (by rw[cO,h1,h2]; rfl)
 rw[V6] at h2
 conv=>whnf
 refine⟨fun h3=>?_,fun h3=>?_⟩
 ·conv=>whnf
  exact aA.int (by rw[cO,h1,h2,show((p.states.length:Int)==0)=true from h3]; rfl)
 replace h3:((p.states.length:Int)==0)=false:=h3
 conv=>whnf
 repeat(refine VC.mk (by first|exact id|(intro h; rw[h]; rfl)) ?_; conv=>whnf)
 refine⟨fun h4=>?_,fun h4=>?_⟩
 ·conv=>whnf
  exact aA.int (by rw[cO,h1,h2,h3,show sU p=true from h4]; rfl)
 replace h4:sU p=false:=h4
 have h0:0<p.states.length:=by
  rcases Nat.eq_zero_or_pos p.states.length with e|e
  ·rw[e] at h3; exact absurd h3 (by decide)
  ·exact e
 have hlen:(allNames p).length<2^30:=by simp only[allNames,List.length_append]; omega
 conv=>whnf
 repeat(refine VC.mk (by simp only[nH,ng,Rw.len,List.length_append]; omega) ?_; conv=>whnf)
 refine aJ.fz 3 57 0 (.strs (allNames p)) rfl rfl (Yx rfl rfl) ?_
 conv=>whnf
 refine aJ.same [1,3] (fun i:Nat=>[(4,.int i)]) (fun i=>i<=(allNames p).length/\(List.range i).any (Ku (allNames p))=false) (fun i=>(allNames p).length-i) 0 rfl (by decide) rfl (fun _=>rfl) ⟨Nat.zero_le _,rfl⟩ ⟨⟨_,rfl,rfl⟩,trivial⟩ ?_
 conv=>whnf
 refine⟨rfl,?_⟩
 rintro i ⟨hi,hall⟩
 conv=>whnf
 refine⟨fun h5=>?_,fun h5=>?_⟩
 ·have hi':i<(allNames p).length:=by have:(i:Int)<((allNames p).length:Int):=of_decide_eq_true h5; omega
  conv=>whnf
  refine .mk (by simp only[Rw.rng] at *; omega) ?_
  conv=>whnf
  refine ah.pure (S.jY ((allNames p).getD i [])) rfl ?_
  conv=>whnf
  repeat(refine VC.mk (by first|exact id|exact fun h=>⟨h,h⟩|(intro h; (repeat' apply And.intro)<;>first|exact h|omega|(simp only[Rw.pG]; omega)|(simp only[Rw.rng]; omega))) ?_; conv=>whnf)
  refine ah.gZ (fun _=>S.oD ((allNames p).take i) ((allNames p).getD i []) _ (by rw[List.length_take]; omega)) rfl ?_
  conv=>whnf
  refine .mk (by intro h; rw[h]; rfl) ?_
  conv=>whnf
  refine⟨fun h6=>?_,fun h6=>?_⟩
  ·conv=>whnf
   refine aA.int ?_
   rw[cO,h1,h2,h3,h4,show xB p=2 by rw[xB,CU.2 ⟨i,hi',h6⟩]; rfl]; rfl
  ·conv=>whnf
   refine .mk (by simp only[okI] at *; omega) ?_
   conv=>whnf
   refine⟨i+1,⟨by omega,?_⟩,by omega,⟨⟨_,rfl,rfl⟩,trivial⟩,?_,rfl⟩
   ·rw[List.range_succ,List.any_append,hall]
    simp only[List.any_cons,List.any_nil,Bool.or_false,Bool.false_or]; exact h6
   ·repeat' (first|exact trivial|exact⟨_,rfl,rfl⟩|constructor)
 have hi':(allNames p).length<=i:=by have: ¬ ((i:Int)<((allNames p).length:Int)):=of_decide_eq_false h5; omega
 have e:i=(allNames p).length:=Nat.le_antisymm hi hi'
 subst e
 have h5:xB p=0:=by rw[xB,hall]; rfl
 clear hi hall hi' hlen
 conv=>whnf
 repeat(refine VC.mk (by first|exact id|(intro h; rw[h]; rfl)|(intro h; simp[h]; done)|(intro h; simp_all; done)) ?_; conv=>whnf)
 refine⟨fun h6=>?_,fun h6=>?_⟩
 ·conv=>whnf
  exact aA.int (by rw[cO,h1,h2,h3,h4,h5,show Nc p=true from h6]; rfl)
 replace h6:Nc p=false:=h6
 conv=>whnf
 refine aJ.same [1] (fun i:Nat=>[(5,.int i)]) (fun i=>i<=p.bQ.length/\(p.bQ.take i).any (fun l=> !(MV l))=false) (fun i=>p.bQ.length-i) 0 rfl (by decide) rfl (fun _=>rfl) ⟨by omega,by simp⟩ ⟨⟨_,rfl,rfl⟩,trivial⟩ ?_
 conv=>whnf
 refine⟨rfl,?_⟩
 rintro i ⟨hi,hall⟩
 conv=>whnf
 refine⟨fun h7=>?_,fun h7=>?_⟩
 ·have hi':i<p.bQ.length:=by simpa using h7
  conv=>whnf
  refine .mk (by simp only[Rw.rng] at *; omega) ?_
  conv=>whnf
  refine ah.pure (S.xA (p.bQ.getD i default)) rfl ?_
  conv=>whnf
  refine⟨fun h8=>?_,fun h8=>?_⟩
  ·conv=>whnf
   exact aA.int (by rw[cO,h1,h2,h3,h4,h5,h6,nT (d:=default) hi' h8]; rfl)
  ·conv=>whnf
   refine .mk (by simp only[okI] at *; omega) ?_
   conv=>whnf
   refine⟨i+1,⟨by omega,?_⟩,by omega,⟨⟨_,rfl,rfl⟩,trivial⟩,?_,rfl⟩
   ·rw[qN (d:=default) hi' hall]; exact h8
   ·repeat' (first|exact trivial|exact⟨_,rfl,rfl⟩|constructor)
 have hi':p.bQ.length<=i:=by simpa using h7
 rw[List.take_of_length_le hi'] at hall
 clear hi hi' h7
 conv=>whnf
 refine ah.pure (S.jE p.initial p.states.length false (by omega) ⟨by omega,by omega⟩) rfl ?_
 conv=>whnf
 refine⟨fun h7=>?_,fun h7=>?_⟩
 ·replace h7:=Iy h7
  have:vC p=eF p.initial p.states.length:=fN h7
  conv=>whnf
  exact aA.int (by rw[cO,h1,h2,h3,h4,h5,h6,hall,this,show(eF p.initial p.states.length !=0)=true by simpa using h7]; rfl)
 replace h7:=yX h7
 conv=>whnf
 refine⟨fun h8=>?_,fun h8=>?_⟩
 ·replace h8:((p.initial.length:Int)==0)=true:=h8
  have:vC p=1:=by rw[vC,h7,h8]; rfl
  conv=>whnf
  exact aA.int (by rw[cO,h1,h2,h3,h4,h5,h6,hall,this]; rfl)
 replace h8:((p.initial.length:Int)==0)=false:=h8
 conv=>whnf
 refine ah.pure (S.jE p.leader p.states.length false (by omega) ⟨by omega,by omega⟩) rfl ?_
 conv=>whnf
 refine⟨fun h9=>?_,fun h9=>?_⟩
 ·replace h9:=Iy h9
  have:vC p=eF p.leader p.states.length:=by rw[vC,h7,h8]; exact fN h9
  conv=>whnf
  exact aA.int (by rw[cO,h1,h2,h3,h4,h5,h6,hall,this,show(eF p.leader p.states.length !=0)=true by simpa using h9]; rfl)
 replace h9:=yX h9
 have h10:vC p=0:=by rw[vC,h7,h8,h9]; rfl
 conv=>whnf
 refine aJ.same [1] (fun i:Nat=>[(8,.int i)]) (fun i=>i<=p.rules.length/\Ac p=aQ (((List.range p.rules.length).drop i).map (fQ p))) (fun i=>p.rules.length-i) 0 rfl (by decide) rfl (fun _=>rfl) ⟨by omega,by simp[Ac]⟩ ⟨⟨_,rfl,rfl⟩,trivial⟩ ?_
 conv=>whnf
 refine⟨rfl,?_⟩
 rintro i ⟨hi,hr⟩
 conv=>whnf
 refine⟨fun h11=>?_,fun h11=>?_⟩
 ·have hi':i<p.rules.length:=by simpa using h11
  rw[G6 hi'] at hr
  simp only[aQ] at hr
  conv=>whnf
  refine ah.pure (S.Tj p i hi' hp) rfl ?_
  conv=>whnf
  refine⟨fun h12=>?_,fun h12=>?_⟩
  ·conv=>whnf
   have aaM:fQ p i≠0:=Iy h12
   rw[if_neg aaM] at hr
   exact aA.int (by rw[cO,h1,h2,h3,h4,h5,h6,hall,h10,hr,show(fQ p i !=0)=true from h12]; rfl)
  ·conv=>whnf
   refine .mk (by simp only[okI] at *; omega) ?_
   conv=>whnf
   have aaM:fQ p i=0:=yX h12
   rw[if_pos aaM] at hr
   refine⟨i+1,⟨by omega,hr⟩,by omega,⟨⟨_,rfl,rfl⟩,trivial⟩,?_,rfl⟩
   repeat' (first|exact trivial|exact⟨_,rfl,rfl⟩|constructor)
 have hi':p.rules.length<=i:=by simpa using h11
 rw[List.drop_eq_nil_of_le (by simpa using hi')] at hr
 conv=>whnf
 refine ah.pure (S.o9 p hp) rfl ?_
 conv=>whnf
 refine⟨fun h12=>?_,fun h12=>?_⟩
 ·conv=>whnf
  exact aA.int (by rw[cO,h1,h2,h3,h4,h5,h6,hall,h10,hr,show decide (((wF p.rules).length:Int)>3)=true from h12]; rfl)
 ·conv=>whnf
  exact aA.int (by rw[cO,h1,h2,h3,h4,h5,h6,hall,h10,hr,show decide (((wF p.rules).length:Int)>3)=false from h12]; rfl)
def Nh(p:aW)(i:Nat):V:=.agg [.bool (((p.topology==1)&&((p.values.length:Int)==0))&&(p.rules.take i).foldl Nj true),.bool (rG p&& !((p.rules.take i).foldl Tm false)),.bool ((p.topology==2)||(p.topology==3)),.bool (p.topology==4),.bool (rG p&&decide ((p.states.length:Int)<=4))]
def badR(r:Rule):Bool:=r.kind !=1||decide (r.fr>=r.to)||decide ((r.ex.length:Int)>0)||decide ((r.all.length:Int)>0)
theorem Yj{acc:Bool}{r:Rule}(h:badR r=true):Nj acc r=false:=by
 simp only[badR,Bool.or_eq_true,bne_iff_ne,decide_eq_true_eq] at h
 simp only[Nj]
 rw[Bool.eq_false_iff]; intro q
 simp only[Bool.and_eq_true,beq_iff_eq,decide_eq_true_eq] at q
 omega
theorem aaN{acc:Bool}{r:Rule}(h:badR r=false):Nj acc r=acc:=by
 simp only[badR,Bool.or_eq_false_iff,bne_eq_false_iff_eq,decide_eq_false_iff_not] at h
 obtain⟨⟨⟨a,b⟩,c⟩,d⟩:=h
 simp only[Nj]
 rw[show(r.kind==1)=true from beq_iff_eq.2 a,decide_eq_true (by omega),show((r.ex.length:Int)==0)=true from beq_iff_eq.2 (by omega),show((r.all.length:Int)==0)=true from beq_iff_eq.2 (by omega)]
 simp
theorem acK(p:aW):Nh p 0= .agg [.bool ((p.topology==1)&&((p.values.length:Int)==0)),.bool (rG p),.bool ((p.topology==2)||(p.topology==3)),.bool (p.topology==4),.bool (rG p&&decide ((p.states.length:Int)<=4))]:=by
 simp[Nh]
theorem CO(p:aW){i:Nat}(hi:i<p.rules.length):Nh p (i+1) =
  .agg [.bool (bif badR (p.rules.getD i default) then false else((p.topology==1)&&((p.values.length:Int)==0))&&(p.rules.take i).foldl Nj true),
   .bool (bif decide (((p.rules.getD i default).all.length:Int)>0) then false else rG p&& !((p.rules.take i).foldl Tm false)),.bool ((p.topology==2)||(p.topology==3)),.bool (p.topology==4),.bool (rG p&&decide ((p.states.length:Int)<=4))]:=by
 simp only[Nh,yP (d:=default) hi]
 cases hb:badR (p.rules.getD i default) with
 |true =>
  rw[Yj hb,Tm]
  cases decide (((p.rules.getD i default).all.length:Int)>0)<;>simp
 |false =>
  rw[aaN hb,Tm]
  cases decide (((p.rules.getD i default).all.length:Int)>0)<;>simp
theorem S.oI(p:aW)(hp:dM p):au Tryz.prog 41 [.dat (.dw p)] (DV p):=by
 have g1:=hp.states; have g2:=hp.messages; have g3:=hp.values; have g4:=hp.bQ; have g7:=hp.rules
 refine au.of Bd.oI (by simp) rfl rfl ?_
 conv=>whnf
 refine ah.pure (S.pz p hp) rfl ?_
 conv=>whnf
 refine⟨fun h1=>?_,fun h1=>?_⟩
 ·conv=>whnf
  refine aA.eqv ?_
  rw[DV,h1]; rfl
 have h1':cO p=0:=yX h1
 conv=>whnf
 repeat(refine VC.mk (by first|exact id|(intro h; rw[h]; rfl)) ?_; conv=>whnf)
 refine aJ.objs 100 [1,2,7] (fun i:Nat=>[(8,.int i)]) (fun i=>[(0,.box 27 11 (.dat (.dw p))),(1,.box 81 6 (abW Iw)),(58,.box 81 6 (Nh p i))]) (fun i=>i<=p.rules.length) (fun i=>p.rules.length-i) 0 [0,1,58] rfl (by decide) (fun _=>rfl) (Nat.zero_le _) ?_ ?_ ?_
 ·exact⟨⟨_,rfl,.eq rfl⟩,trivial⟩
 ·refine⟨⟨rfl,nofun,rfl,rfl,rfl,_,rfl,rfl,rfl,aY.of_eq rfl⟩,⟨rfl,nofun,rfl,rfl,rfl,_,rfl,rfl,rfl,aY.of_eq rfl⟩,⟨rfl,nofun,rfl,rfl,rfl,_,rfl,rfl,rfl,aY.of_eq ?_⟩,trivial⟩
  rw[acK]; rfl
 conv=>whnf
 refine⟨⟨⟨_,rfl,.eq rfl⟩,⟨_,rfl,.eq rfl⟩,⟨_,rfl,.eq rfl⟩,trivial⟩,rfl,?_⟩
 rintro i hi
 have g8:=hp.rule i
 have g9:=g8.ex; have g10:=g8.all
 conv=>whnf
 refine⟨fun h3=>?_,fun h3=>?_⟩
 ·have hi':i<p.rules.length:=by simpa using h3
  conv=>whnf
  repeat(refine VC.mk (by first|exact id|exact fun h=>⟨h,h⟩|(intro h; rw[h]; rfl)|(simp only[Rw.rng] at *; omega)) ?_; conv=>whnf)
  refine⟨fun h4=>?_,fun h4=>?_⟩
  ·replace h4:badR (p.rules.getD i default)=true:=h4
   conv=>whnf
   refine⟨fun h5=>?_,fun h5=>?_⟩
   ·replace h5:decide (((p.rules.getD i default).all.length:Int)>0)=true:=h5
    conv=>whnf
    refine .mk (by simp only[okI] at *; omega) ?_
    conv=>whnf
    refine⟨i+1,[0,1,58],by omega,by omega,⟨⟨_,rfl,.eq rfl⟩,trivial⟩,⟨⟨_,rfl,.eq rfl⟩,⟨_,rfl,.eq rfl⟩,⟨_,rfl,.eq rfl⟩,trivial⟩,⟨rfl,nofun,rfl,rfl,rfl,_,rfl,rfl,rfl,aY.of_eq rfl⟩,⟨rfl,nofun,rfl,rfl,rfl,_,rfl,rfl,rfl,aY.of_eq rfl⟩,⟨rfl,nofun,rfl,rfl,rfl,_,rfl,rfl,rfl,aY.of_eq ?_⟩,trivial⟩
    rw[CO p hi',h4,h5]; rfl
   ·replace h5:decide (((p.rules.getD i default).all.length:Int)>0)=false:=h5
    conv=>whnf
    refine .mk (by simp only[okI] at *; omega) ?_
    conv=>whnf
    refine⟨i+1,[0,1,58],by omega,by omega,⟨⟨_,rfl,.eq rfl⟩,trivial⟩,⟨⟨_,rfl,.eq rfl⟩,⟨_,rfl,.eq rfl⟩,⟨_,rfl,.eq rfl⟩,trivial⟩,⟨rfl,nofun,rfl,rfl,rfl,_,rfl,rfl,rfl,aY.of_eq rfl⟩,⟨rfl,nofun,rfl,rfl,rfl,_,rfl,rfl,rfl,aY.of_eq rfl⟩,⟨rfl,nofun,rfl,rfl,rfl,_,rfl,rfl,rfl,aY.of_eq ?_⟩,trivial⟩
    rw[CO p hi',h4,h5]; rfl
  ·replace h4:badR (p.rules.getD i default)=false:=h4
   conv=>whnf
   refine⟨fun h5=>?_,fun h5=>?_⟩
   ·replace h5:decide (((p.rules.getD i default).all.length:Int)>0)=true:=h5
    conv=>whnf
    refine .mk (by simp only[okI] at *; omega) ?_
    conv=>whnf
    refine⟨i+1,[0,1,58],by omega,by omega,⟨⟨_,rfl,.eq rfl⟩,trivial⟩,⟨⟨_,rfl,.eq rfl⟩,⟨_,rfl,.eq rfl⟩,⟨_,rfl,.eq rfl⟩,trivial⟩,⟨rfl,nofun,rfl,rfl,rfl,_,rfl,rfl,rfl,aY.of_eq rfl⟩,⟨rfl,nofun,rfl,rfl,rfl,_,rfl,rfl,rfl,aY.of_eq rfl⟩,⟨rfl,nofun,rfl,rfl,rfl,_,rfl,rfl,rfl,aY.of_eq ?_⟩,trivial⟩
    rw[CO p hi',h4,h5]; rfl
   ·replace h5:decide (((p.rules.getD i default).all.length:Int)>0)=false:=h5
    conv=>whnf
    refine .mk (by simp only[okI] at *; omega) ?_
    conv=>whnf
    refine⟨i+1,[0,1,58],by omega,by omega,⟨⟨_,rfl,.eq rfl⟩,trivial⟩,⟨⟨_,rfl,.eq rfl⟩,⟨_,rfl,.eq rfl⟩,⟨_,rfl,.eq rfl⟩,trivial⟩,⟨rfl,nofun,rfl,rfl,rfl,_,rfl,rfl,rfl,aY.of_eq rfl⟩,⟨rfl,nofun,rfl,rfl,rfl,_,rfl,rfl,rfl,aY.of_eq rfl⟩,⟨rfl,nofun,rfl,rfl,rfl,_,rfl,rfl,rfl,aY.of_eq ?_⟩,trivial⟩
    rw[CO p hi',h4,h5]; rfl
 have hi':p.rules.length<=i:=by simpa using h3
 have e:i=p.rules.length:=Nat.le_antisymm hi hi'
 subst e
 conv=>whnf
 refine aA.eqv ?_
 rw[DV,h1',jL]
 simp only[List.take_length]
 rfl
end Go.Proofs.YtbfhebmdcpmfaaaGreatDoor
