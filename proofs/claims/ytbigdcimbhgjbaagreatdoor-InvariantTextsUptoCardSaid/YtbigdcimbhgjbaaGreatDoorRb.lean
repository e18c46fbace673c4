/-
 The two programs' rules for a protocol's rules say the same. No condition.
-/
import Derived.Test.YtbigdcimbhgjbaaGreatDoorRa
import Derived.Test.YtbigdcimbhgjbaaGreatDoorLg
namespace Go.Proofs.YtbigdcimbhgjbaaGreatDoor
open Go.Ab Go.Proofs
theorem Cb{x n:Int}:(!(iP x 0 (n-1)))=oI x n:=by rw[nN,Bool.not_not]
theorem vals_eq(p:aS)(r:Rule):yJ p r=((decide (r.read< -1)||decide (r.read>=p.values.length))||(decide (r.write< -1)||decide (r.write>=p.values.length))):=by
 simp only[yJ,Cb,oI]
 rw[Bool.eq_iff_iff]; simp; omega
theorem Yh(a b:Bool)(v:Int)(r:List Int)(h:v≠0):aU (eG (a||b) v::r)=aU (eG a v::eG b v::r):=by
 cases a<;>cases b<;>simp[eG,aU,h]
theorem MC(p:aS)(l:List yM)(r:List Int):aU (wE p l::r)=aU (jR p l::eG (decide ((l.length:Int)>2)) 4::r):=by
 by_cases h:jR p l=0
 ·rw[show wE p l=eG (decide ((l.length:Int)>2)) 4 from if_pos h,h]; rfl
 ·rw[show wE p l=jR p l from if_neg h,fN h,fN h]
theorem Rx{c d:Bool}:(bif c then true else d)=(c||d):=by cases c<;>rfl
theorem len_nil{α:Type}{l:List α}(h:decide ((l.length:Int)>0)=false):l=[]:=by
 cases l with
 |nil=>rfl
 |cons a r=>simp at h
theorem Jr{r:Rule}{t:Int}(h:lD r t=false) :
  (r.kind≠1->r.guards=[]/\r.ex=[]/\r.all=[]/\r.send=[])/\(r.kind≠1->r.kind≠2->r.kind≠3->r.read= -1/\r.write= -1) /\
  (r.kind≠3->r.response=[])/\(r.kind≠5->r.direction=0)/\(r.kind≠4->r.pos=0/\r.left=[]/\r.right=[])/\(¬(r.kind=4/\t=4)->r.parent=[]):=by
 simp only[lD,Rx,Bool.or_eq_false_iff] at h
 obtain⟨h1,h2,h3,⟨h4,h5⟩,h6,h7⟩:=h
 refine⟨fun k=>?_,fun k1 k2 k3=>?_,fun k=>?_,fun k=>?_,fun k=>?_,fun k=>?_⟩
 ·simp only[beq_eq_false_iff_ne.2 k,Bool.not_false,Bool.true_and,Bool.or_eq_false_iff] at h1
  exact⟨len_nil h1.1.1.1,len_nil h1.1.1.2,len_nil h1.1.2,len_nil h1.2⟩
 ·simp only[beq_eq_false_iff_ne.2 k1,beq_eq_false_iff_ne.2 k2,beq_eq_false_iff_ne.2 k3,Bool.not_false,Bool.true_and,Bool.or_eq_false_iff] at h2
  exact⟨PS h2.1,PS h2.2⟩
 ·simp only[beq_eq_false_iff_ne.2 k,Bool.not_false,Bool.true_and] at h4
  exact len_nil h4
 ·simp only[beq_eq_false_iff_ne.2 k,Bool.not_false,Bool.true_and] at h5
  exact PS h5
 ·simp only[beq_eq_false_iff_ne.2 k,Bool.not_false,Bool.true_and,Bool.or_eq_false_iff] at h6
  exact⟨PS h6.1.1,len_nil h6.1.2,len_nil h6.2⟩
 ·refine len_nil ?_
  rw[Bool.and_eq_false_iff] at h7
  rcases h7 with h7|h7
  ·exact h7
  ·simp only[Bool.not_eq_false',Bool.and_eq_true,beq_iff_eq] at h7
   exact absurd h7 k
theorem kind_eq{r:Rule}{t:Int}:((!(iP r.kind 1 5)||(decide (r.kind<=3) !=(t==1)))||lD r t)=(!(sV r.kind t)||kJ r t):=by
 by_cases hk:1<=r.kind/\r.kind<=5
 ·rw[yT hk]
  congr 1
  have hk':r.kind=1\/r.kind=2\/r.kind=3\/r.kind=4\/r.kind=5:=by omega
  rcases hk' with e|e|e|e|e<;>rw[e]<;>cases ht:(t==1)<;>simp[iP,sV,ht]
 ·have h1:iP r.kind 1 5=false:=by rw[iP,Bool.and_eq_false_iff]; simp; omega
  have h2:sV r.kind t=false:=by
   have:r.kind≠1/\r.kind≠2/\r.kind≠3/\r.kind≠4/\r.kind≠5:=by omega
   obtain⟨a,b,c,d,e⟩:=this
   simp[sV,a,b,c,d,e]
  rw[h1,h2]; rfl
theorem FQ(p:aS)(r:Rule):(vK p r !=0)=(oI r.fr p.states.length||oI r.to p.states.length):=by
 simp only[vK,cu]
 cases oI r.fr p.states.length<;>cases oI r.to p.states.length<;>rfl
theorem ab9(p:aS)(r:Rule)(h:(vK p r !=0)=true):vK p r=5:=by
 rw[FQ] at h
 simp only[vK,cu]
 revert h
 cases oI r.fr p.states.length<;>cases oI r.to p.states.length<;>intro h<;>first|rfl|cases h
theorem zL(n:Int):dX [] n=0:=rfl
theorem Vg(x:Int):aU [x,0,0,0,0,0,0]=aU [x]:=by
 simp only[aU]; simp
theorem Ba{a:Int}{X Y:List Int}(h:aU X=aU Y):aU (a::X)=aU (a::Y):=by simp only[aU,h]
theorem Rf(x:Int):aU [x,0,0,0,0,0,0,0]=aU [x]:=by
 simp only[aU]; simp
theorem Rh(x:Int):aU [x,0,0]=aU [x]:=by
 simp only[aU]; simp
theorem IW(p:aS)(r:Rule):aU [eG (yJ p r) 5,0,0,0,0,0,0,0]=aU [jy p r.read,jy p r.write]:=by
 rw[vals_eq,Yh _ _ _ _ (by decide)]
 exact Ba (Rf _)
theorem Yi(p:aS)(i:Nat):xM p i=gG p i:=by
 simp only[xM,gG,qJ,pK]
 generalize p.rules.getD i default=r
 cases hv:validName r.name with
 |false=>rfl
 |true =>
 cases ha:(p.rules.take i).any (fun x=>x.name==r.name) with
 |true=>rfl
 |false =>
 simp only[Fh,kind_eq,Bool.not_true,Bool.or_false,cond_false]
 cases hk:(!(sV r.kind p.topology)||kJ r p.topology) with
 |true=>rfl
 |false =>
 have hk2:=hk
 rw[<- kind_eq,Bool.or_eq_false_iff,Bool.or_eq_false_iff,Bool.not_eq_false'] at hk2
 obtain⟨⟨k1,_⟩,k2⟩:=hk2
 obtain⟨u1,u2,u3,u4,u5,u6⟩:=Jr k2
 have hk':r.kind=1\/r.kind=2\/r.kind=3\/r.kind=4\/r.kind=5:=by
  simp only[iP,Bool.and_eq_true,decide_eq_true_eq] at k1; omega
 cases he:(vK p r !=0) with
 |true =>
  rw[ab9 p r he]
  rw[FQ] at he
  simp only[Fg,Cb,he]; rfl
 |false =>
 rw[FQ] at he
 simp only[Fg,Cb,he,Bool.false_or,cond_false]
 rcases hk' with e|e|e|e|e
 ·have a5:=u5 (by omega)
  have m4:BU p r=false:=by simp[BU,e]
  have d1:BX p r=false:=by simp[BX,e]
  have d2:BZ p r=false:=by simp[BZ,e]
  simp only[gI,m4,d1,d2,a5.2.1,a5.2.2,u6 (by omega),e,zL,Int.reduceBEq,Bool.or_self,Bool.false_and,cond_false,cond_true]
  rw[MC]
  refine Ba (Ba (Ba (Ba ?_)))
  rw[vals_eq,Yh _ _ _ _ (by decide)]
  refine Ba (Ba ?_)
  exact Vg _
 ·obtain⟨g1,g2,g3,g4⟩:=u1 (by omega)
  have a5:=u5 (by omega)
  have m4:BU p r=false:=by simp[BU,e]
  have d1:BX p r=false:=by simp[BX,e]
  have d2:BZ p r=false:=by simp[BZ,e]
  simp only[gI,m4,d1,d2,g1,g2,g3,g4,a5.2.1,a5.2.2,u6 (by omega),e,zL,Int.reduceBEq,Bool.or_false,Bool.true_and,cond_false,cond_true,cu]
  cases oI r.jk p.states.length with
  |true=>rfl
  |false =>
   cases oI r.CO p.states.length with
   |true=>rfl
   |false=>exact IW p r
 ·obtain⟨g1,g2,g3,g4⟩:=u1 (by omega)
  have a5:=u5 (by omega)
  have m4:BU p r=false:=by simp[BU,e]
  have d1:BX p r=false:=by simp[BX,e]
  have d2:BZ p r=false:=by simp[BZ,e]
  simp only[gI,m4,d1,d2,g1,g2,g3,g4,a5.2.1,a5.2.2,u6 (by omega),e,zL,Int.reduceBEq,Bool.or_self,Bool.false_and,cond_false,cond_true,CS]
  cases ((r.response.length:Int) !=p.states.length) with
  |true=>rfl
  |false =>
   simp only[cond_false]
   by_cases hz:oJ r.response p.states.length=0
   ·rw[hz]; exact IW p r
   ·rw[show(oJ r.response p.states.length !=0)=true by simpa using hz,fN hz]; rfl
 ·obtain⟨g1,g2,g3,g4⟩:=u1 (by omega)
  obtain⟨v1,v2⟩:=u2 (by omega) (by omega) (by omega)
  have m4:BU p r=Yj p r:=by
   simp only[BU,Yj,e,pz]; rfl
  have d1:BX p r=false:=by simp[BX,e]
  have d2:BZ p r=false:=by simp[BZ,e]
  have vv:yJ p r=false:=by simp[yJ,v1,v2]
  simp only[gI,m4,d1,d2,vv,g1,g2,g3,g4,e,zL,Int.reduceBEq,Bool.or_self,Bool.false_and,cond_false,cond_true]
  exact Ba (Ba (Ba (Rh _)))
 ·obtain⟨g1,g2,g3,g4⟩:=u1 (by omega)
  obtain⟨v1,v2⟩:=u2 (by omega) (by omega) (by omega)
  have a5:=u5 (by omega)
  have m4:BU p r=false:=by simp[BU,e]
  have vv:yJ p r=false:=by simp[yJ,v1,v2]
  have d1:BX p r=((p.topology==4)&&(decide (r.direction<3)||decide (r.direction>4))):=by
   simp only[BX,e,pz]; rfl
  have d2:BZ p r=(!(p.topology==4)&&(decide (r.direction<1)||decide (r.direction>2))):=by
   simp only[BZ,e,pz]; rfl
  simp only[gI,m4,d1,d2,vv,g1,g2,g3,g4,a5.2.1,a5.2.2,u6 (by omega),e,zL,Int.reduceBEq,Bool.or_true,Bool.true_and,cond_false,cu]
  cases oI r.jk p.states.length with
  |true=>cases (p.topology==4)<;>rfl
  |false =>
   cases oI r.CO p.states.length with
   |true=>cases (p.topology==4)<;>rfl
   |false =>
    cases (p.topology==4) with
    |true=>cases (decide (r.direction<3)||decide (r.direction>4))<;>rfl
    |false=>cases (decide (r.direction<1)||decide (r.direction>2))<;>rfl
theorem Yk{p:aS}:(!(iP p.topology 1 4)|| !(iP p.fault 0 3))=sU p:=by
 simp only[pz,sU,Bool.or_assoc]
theorem S.Vh(p:aS)(i:Nat)(hi:i<p.rules.length)(hp:dK p):ak Tryz.prog 83 [.dat (.eu p),.int i] (.int (gG p i)):=by
 rw[<- Yi]; exact S.zK p i hi hp
theorem Rq{h:Hz}{j:Nat}{Z:Nat->Prop}{l:List Str}(hz:Z j)(q:h.get j=some (.row 9 0 (.strs l) [])):T.sub Z h.aj (V.row 0 false (.strs l)).aI (V.own j).aI:=by
 show T.sub Z h.aj (.sl 0 false (l.map eS)) (.own j)
 simp only[T.sub]
 refine⟨trivial,hz,?_,by decide,9,?_⟩
 ·rw[gY]; intro t ht; obtain⟨x,_,rfl⟩:=List.mem_map.1 ht; rfl
 ·have:=aH q
  rw[this]; simp[OV.aF,Rw.aX,V.aX]
theorem S.qK(p:aS)(hp:dK p):ak Tryz.prog 54 [.dat (.eu p)] (.int (dn p)):=by
 have g1:=hp.states; have g2:=hp.messages; have g3:=hp.values; have g4:=hp.bY; have g5:=hp.initial; have g6:=hp.leader; have g7:=hp.rules
 refine ak.of Bd.qK (by simp) rfl rfl ?_
 refine ah.pure (S.kM p.name) rfl ?_
 refine⟨fun h1=>?_,fun h1=>?_⟩
 ·conv=>whnf
  exact au.int (by rw[dn,h1]; rfl)
 refine ah.pure (S.bn p.topology 1 4) rfl ?_
 repeat(refine VC.mk id ?_)
 refine ah.iD (fun _=>S.bn p.fault 0 3) rfl ?_
 repeat(refine VC.mk (by first|exact id|(intro h; rw[h]; rfl)) ?_)
 refine⟨fun h2=>?_,fun h2=>?_⟩
 ·conv=>whnf
  rw[Yk] at h2
  exact au.int (by rw[dn,h1,h2]; rfl)
 rw[Yk] at h2
 refine⟨fun h3=>?_,fun h3=>?_⟩
 ·conv=>whnf
  exact au.int (by rw[dn,h1,h2,show((p.states.length:Int)==0)=true from h3]; rfl)
 replace h3:((p.states.length:Int)==0)=false:=h3
 repeat(refine VC.mk (by first|exact id|(intro h; rw[h]; rfl)) ?_)
 refine⟨fun h4=>?_,fun h4=>?_⟩
 ·conv=>whnf
  exact au.int (by rw[dn,h1,h2,h3,show uH p=true from h4]; rfl)
 replace h4:uH p=false:=h4
 have h0:0<p.states.length:=by
  rcases Nat.eq_zero_or_pos p.states.length with e|e
  ·rw[e] at h3; exact absurd h3 (by decide)
  ·exact e
 have hlen:(allNames p).length<2^30:=by simp only[allNames,List.length_append]; omega
 repeat(refine VC.mk (by simp only[kQ,nO,Rw.len,List.length_append]; omega) ?_)
 refine aQ.fz 3 57 0 (.strs (allNames p)) rfl rfl (Rq rfl rfl) ?_
 refine aQ.same [1,3] (fun i:Nat=>[(4,.int i)]) (fun i=>i<=(allNames p).length/\(List.range i).any (tN (allNames p))=false) (fun i=>(allNames p).length-i) 0 rfl (by decide) rfl (fun _=>rfl) ⟨Nat.zero_le _,rfl⟩ ⟨⟨_,rfl,rfl⟩,trivial⟩ ?_
 refine⟨rfl,?_⟩
 rintro i ⟨hi,hall⟩
 refine⟨fun h5=>?_,fun h5=>?_⟩
 ·have hi':i<(allNames p).length:=by have:(i:Int)<((allNames p).length:Int):=of_decide_eq_true h5; omega
  refine .mk (by simp only[Rw.rng] at *; omega) ?_
  refine ah.pure (S.kM ((allNames p).getD i [])) rfl ?_
  repeat(refine VC.mk (by first|exact id|exact fun h=>⟨h,h⟩|(intro h; (repeat' apply And.intro)<;>first|exact h|omega|(simp only[Rw.oK]; omega)|(simp only[Rw.rng]; omega))) ?_)
  refine ah.iD (fun _=>S.pq ((allNames p).take i) ((allNames p).getD i []) _ (by rw[List.length_take]; omega)) rfl ?_
  refine .mk (by intro h; rw[h]; rfl) ?_
  refine⟨fun h6=>?_,fun h6=>?_⟩
  ·conv=>whnf
   refine au.int ?_
   rw[dn,h1,h2,h3,h4,show uO p=2 by rw[uO,zQ.2 ⟨i,hi',h6⟩]; rfl]; rfl
  ·conv=>whnf
   refine .mk (by simp only[okI] at *; omega) ?_
   refine⟨i+1,⟨by omega,?_⟩,by omega,⟨⟨_,rfl,rfl⟩,trivial⟩,?_,rfl⟩
   ·rw[List.range_succ,List.any_append,hall]
    simp only[List.any_cons,List.any_nil,Bool.or_false,Bool.false_or]; exact h6
   ·repeat' (first|exact trivial|exact⟨_,rfl,rfl⟩|constructor)
 have hi':(allNames p).length<=i:=by have: ¬ ((i:Int)<((allNames p).length:Int)):=of_decide_eq_false h5; omega
 have e:i=(allNames p).length:=Nat.le_antisymm hi hi'
 subst e
 have h5:uO p=0:=by rw[uO,hall]; rfl
 clear hi hall hi' hlen
 repeat(refine VC.mk (by first|exact id|(intro h; rw[h]; rfl)|(intro h; simp[h]; done)|(intro h; simp_all; done)) ?_)
 refine⟨fun h6=>?_,fun h6=>?_⟩
 ·conv=>whnf
  exact au.int (by rw[dn,h1,h2,h3,h4,h5,show O1 p=true from h6]; rfl)
 replace h6:O1 p=false:=h6
 refine aQ.same [1] (fun i:Nat=>[(5,.int i)]) (fun i=>i<=p.bY.length/\(p.bY.take i).any (fun l=> !(OT l))=false) (fun i=>p.bY.length-i) 0 rfl (by decide) rfl (fun _=>rfl) ⟨by omega,by simp⟩ ⟨⟨_,rfl,rfl⟩,trivial⟩ ?_
 refine⟨rfl,?_⟩
 rintro i ⟨hi,hall⟩
 refine⟨fun h7=>?_,fun h7=>?_⟩
 ·have hi':i<p.bY.length:=by simpa using h7
  refine .mk (by simp only[Rw.rng] at *; omega) ?_
  refine ah.pure (S.yD (p.bY.getD i default)) rfl ?_
  refine⟨fun h8=>?_,fun h8=>?_⟩
  ·conv=>whnf
   exact au.int (by rw[dn,h1,h2,h3,h4,h5,h6,mQ (d:=default) hi' h8]; rfl)
  ·conv=>whnf
   refine .mk (by simp only[okI] at *; omega) ?_
   refine⟨i+1,⟨by omega,?_⟩,by omega,⟨⟨_,rfl,rfl⟩,trivial⟩,?_,rfl⟩
   ·rw[pO (d:=default) hi' hall]; exact h8
   ·repeat' (first|exact trivial|exact⟨_,rfl,rfl⟩|constructor)
 have hi':p.bY.length<=i:=by simpa using h7
 rw[List.take_of_length_le hi'] at hall
 clear hi hi' h7
 refine ah.pure (S.jQ p.initial p.states.length false (by omega) ⟨by omega,by omega⟩) rfl ?_
 refine⟨fun h7=>?_,fun h7=>?_⟩
 ·replace h7:=JB h7
  have:wV p=dX p.initial p.states.length:=fN h7
  exact au.int (by rw[dn,h1,h2,h3,h4,h5,h6,hall,this,show(dX p.initial p.states.length !=0)=true by simpa using h7]; rfl)
 replace h7:=Ce h7
 refine⟨fun h8=>?_,fun h8=>?_⟩
 ·replace h8:((p.initial.length:Int)==0)=true:=h8
  have:wV p=1:=by rw[wV,h7,h8]; rfl
  exact au.int (by rw[dn,h1,h2,h3,h4,h5,h6,hall,this]; rfl)
 replace h8:((p.initial.length:Int)==0)=false:=h8
 refine ah.pure (S.jQ p.leader p.states.length false (by omega) ⟨by omega,by omega⟩) rfl ?_
 refine⟨fun h9=>?_,fun h9=>?_⟩
 ·replace h9:=JB h9
  have:wV p=dX p.leader p.states.length:=by rw[wV,h7,h8]; exact fN h9
  exact au.int (by rw[dn,h1,h2,h3,h4,h5,h6,hall,this,show(dX p.leader p.states.length !=0)=true by simpa using h9]; rfl)
 replace h9:=Ce h9
 have h10:wV p=0:=by rw[wV,h7,h8,h9]; rfl
 refine aQ.same [1] (fun i:Nat=>[(8,.int i)]) (fun i=>i<=p.rules.length/\Bg p=aU (((List.range p.rules.length).drop i).map (gG p))) (fun i=>p.rules.length-i) 0 rfl (by decide) rfl (fun _=>rfl) ⟨by omega,by simp[Bg]⟩ ⟨⟨_,rfl,rfl⟩,trivial⟩ ?_
 refine⟨rfl,?_⟩
 rintro i ⟨hi,hr⟩
 refine⟨fun h11=>?_,fun h11=>?_⟩
 ·have hi':i<p.rules.length:=by simpa using h11
  rw[IX hi'] at hr
  simp only[aU] at hr
  refine ah.pure (S.Vh p i hi' hp) rfl ?_
  refine⟨fun h12=>?_,fun h12=>?_⟩
  ·conv=>whnf
   have acd:gG p i≠0:=JB h12
   rw[if_neg acd] at hr
   exact au.int (by rw[dn,h1,h2,h3,h4,h5,h6,hall,h10,hr,show(gG p i !=0)=true from h12]; rfl)
  ·conv=>whnf
   refine .mk (by simp only[okI] at *; omega) ?_
   conv=>whnf
   have acd:gG p i=0:=Ce h12
   rw[if_pos acd] at hr
   refine⟨i+1,⟨by omega,hr⟩,by omega,⟨⟨_,rfl,rfl⟩,trivial⟩,?_,rfl⟩
   repeat' (first|exact trivial|exact⟨_,rfl,rfl⟩|constructor)
 have hi':p.rules.length<=i:=by simpa using h11
 rw[List.drop_eq_nil_of_le (by simpa using hi')] at hr
 refine ah.pure (S.qI p hp) rfl ?_
 refine⟨fun h12=>?_,fun h12=>?_⟩
 ·conv=>whnf
  exact au.int (by rw[dn,h1,h2,h3,h4,h5,h6,hall,h10,hr,show decide (((xJ p.rules).length:Int)>3)=true from h12]; rfl)
 ·conv=>whnf
  exact au.int (by rw[dn,h1,h2,h3,h4,h5,h6,hall,h10,hr,show decide (((xJ p.rules).length:Int)>3)=false from h12]; rfl)
def O4(p:aS)(i:Nat):V:=.agg [.bool (((p.topology==1)&&((p.values.length:Int)==0))&&(p.rules.take i).foldl O5 true),.bool (sN p&& !((p.rules.take i).foldl Vj false)),.bool ((p.topology==2)||(p.topology==3)),.bool (p.topology==4),.bool (sN p&&decide ((p.states.length:Int)<=4))]
def badR(r:Rule):Bool:=r.kind !=1||decide (r.fr>=r.to)||decide ((r.ex.length:Int)>0)||decide ((r.all.length:Int)>0)
theorem Z8{acc:Bool}{r:Rule}(h:badR r=true):O5 acc r=false:=by
 simp only[badR,Bool.or_eq_true,bne_iff_ne,decide_eq_true_eq] at h
 simp only[O5]
 rw[Bool.eq_false_iff]; intro q
 simp only[Bool.and_eq_true,beq_iff_eq,decide_eq_true_eq] at q
 omega
theorem ace{acc:Bool}{r:Rule}(h:badR r=false):O5 acc r=acc:=by
 simp only[badR,Bool.or_eq_false_iff,bne_eq_false_iff_eq,decide_eq_false_iff_not] at h
 obtain⟨⟨⟨a,b⟩,c⟩,d⟩:=h
 simp only[O5]
 rw[show(r.kind==1)=true from beq_iff_eq.2 a,decide_eq_true (by omega),show((r.ex.length:Int)==0)=true from beq_iff_eq.2 (by omega),show((r.all.length:Int)==0)=true from beq_iff_eq.2 (by omega)]
 simp
theorem aec(p:aS):O4 p 0= .agg [.bool ((p.topology==1)&&((p.values.length:Int)==0)),.bool (sN p),.bool ((p.topology==2)||(p.topology==3)),.bool (p.topology==4),.bool (sN p&&decide ((p.states.length:Int)<=4))]:=by
 simp[O4]
theorem DY(p:aS){i:Nat}(hi:i<p.rules.length):O4 p (i+1) =
  .agg [.bool (bif badR (p.rules.getD i default) then false else((p.topology==1)&&((p.values.length:Int)==0))&&(p.rules.take i).foldl O5 true),
   .bool (bif decide (((p.rules.getD i default).all.length:Int)>0) then false else sN p&& !((p.rules.take i).foldl Vj false)),.bool ((p.topology==2)||(p.topology==3)),.bool (p.topology==4),.bool (sN p&&decide ((p.states.length:Int)<=4))]:=by
 simp only[O4,zJ (d:=default) hi]
 cases hb:badR (p.rules.getD i default) with
 |true =>
  rw[Z8 hb,Vj]
  cases decide (((p.rules.getD i default).all.length:Int)>0)<;>simp
 |false =>
  rw[ace hb,Vj]
  cases decide (((p.rules.getD i default).all.length:Int)>0)<;>simp
theorem S.pR(p:aS)(hp:dK p):ak Tryz.prog 36 [.dat (.eu p)] (EO p):=by
 have g1:=hp.states; have g2:=hp.messages; have g3:=hp.values; have g4:=hp.bY; have g7:=hp.rules
 refine ak.of Bd.pR (by simp) rfl rfl ?_
 refine ah.pure (S.qK p hp) rfl ?_
 refine⟨fun h1=>?_,fun h1=>?_⟩
 ·conv=>whnf
  refine au.eqv ?_
  rw[EO,h1]; rfl
 have h1':dn p=0:=Ce h1
 repeat(refine VC.mk (by first|exact id|(intro h; rw[h]; rfl)) ?_)
 refine aQ.objs 100 [1,2,7] (fun i:Nat=>[(8,.int i)]) (fun i=>[(0,.box 27 11 (.dat (.eu p))),(1,.box 80 6 (adw JA)),(58,.box 80 6 (O4 p i))]) (fun i=>i<=p.rules.length) (fun i=>p.rules.length-i) 0 [0,1,58] rfl (by decide) (fun _=>rfl) (Nat.zero_le _) ?_ ?_ ?_
 ·exact(sR rfl)
 ·refine⟨rQ rfl rfl,rQ rfl rfl,⟨rfl,nofun,rfl,rfl,rfl,_,rfl,rfl,rfl,dD.of_eq ?_⟩,trivial⟩
  rw[aec]; rfl
 refine⟨(sR rfl),rfl,?_⟩
 rintro i hi
 have g8:=hp.rule i
 have g9:=g8.ex; have g10:=g8.all
 refine⟨fun h3=>?_,fun h3=>?_⟩
 ·have hi':i<p.rules.length:=by simpa using h3
  repeat(refine VC.mk (by first|exact id|exact fun h=>⟨h,h⟩|(intro h; rw[h]; rfl)|(simp only[Rw.rng] at *; omega)) ?_)
  refine⟨fun h4=>?_,fun h4=>?_⟩
  ·replace h4:badR (p.rules.getD i default)=true:=h4
   refine⟨fun h5=>?_,fun h5=>?_⟩
   ·replace h5:decide (((p.rules.getD i default).all.length:Int)>0)=true:=h5
    refine .mk (by simp only[okI] at *; omega) ?_
    refine⟨i+1,[0,1,58],by omega,by omega,(sR rfl),(sR rfl),rQ rfl rfl,rQ rfl rfl,⟨rfl,nofun,rfl,rfl,rfl,_,rfl,rfl,rfl,dD.of_eq ?_⟩,trivial⟩
    rw[DY p hi',h4,h5]; rfl
   ·replace h5:decide (((p.rules.getD i default).all.length:Int)>0)=false:=h5
    refine .mk (by simp only[okI] at *; omega) ?_
    refine⟨i+1,[0,1,58],by omega,by omega,(sR rfl),(sR rfl),rQ rfl rfl,rQ rfl rfl,⟨rfl,nofun,rfl,rfl,rfl,_,rfl,rfl,rfl,dD.of_eq ?_⟩,trivial⟩
    rw[DY p hi',h4,h5]; rfl
  ·replace h4:badR (p.rules.getD i default)=false:=h4
   refine⟨fun h5=>?_,fun h5=>?_⟩
   ·replace h5:decide (((p.rules.getD i default).all.length:Int)>0)=true:=h5
    refine .mk (by simp only[okI] at *; omega) ?_
    refine⟨i+1,[0,1,58],by omega,by omega,(sR rfl),(sR rfl),rQ rfl rfl,rQ rfl rfl,⟨rfl,nofun,rfl,rfl,rfl,_,rfl,rfl,rfl,dD.of_eq ?_⟩,trivial⟩
    rw[DY p hi',h4,h5]; rfl
   ·replace h5:decide (((p.rules.getD i default).all.length:Int)>0)=false:=h5
    refine .mk (by simp only[okI] at *; omega) ?_
    refine⟨i+1,[0,1,58],by omega,by omega,(sR rfl),(sR rfl),rQ rfl rfl,rQ rfl rfl,⟨rfl,nofun,rfl,rfl,rfl,_,rfl,rfl,rfl,dD.of_eq ?_⟩,trivial⟩
    rw[DY p hi',h4,h5]; rfl
 have hi':p.rules.length<=i:=by simpa using h3
 have e:i=p.rules.length:=Nat.le_antisymm hi hi'
 subst e
 refine au.eqv ?_
 rw[EO,h1',jJ]
 simp only[List.take_length]
 rfl
end Go.Proofs.YtbigdcimbhgjbaaGreatDoor
