/-
 The two programs' rules for a protocol's rules say the same. No condition.
-/
import Derived.Test.YtbdbmfccbpfeoaaGreatDoorRa
import Derived.Test.YtbdbmfccbpfeoaaGreatDoorLg
namespace Go.Proofs.YtbdbmfccbpfeoaaGreatDoor
open Go.Ab Go.Proofs
theorem Gl{x n:Int}:(!(dX x 0 (n-1)))=sO x n:=by rw[pX,et]
theorem vals_eq(p:aB)(r:Rule):Cc p r=((decide (r.read< -1)||decide (r.read>=p.values.length))||(decide (r.write< -1)||decide (r.write>=p.values.length))):=by
 simp only[Cc,Gl,sO];rw[cF]; simp; omega
theorem adC(a b:Bool)(v:Int)(r:List Int)(h:v≠0):bJ (eF (a||b) v::r)=bJ (eF a v::eF b v::r):=by
 cases a<;>cases b<;>simp[eF,bJ,h]
theorem Rq(p:aB)(l:List BA)(r:List Int):bJ (vI p l::r)=bJ (jo p l::eF (decide ((l.length:Int)>2)) 4::r):=by
 by_cases h:jo p l=0
 ·rw[show vI p l=eF (decide ((l.length:Int)>2)) 4 from ba h,h]; rfl
 ·rw[show vI p l=jo p l from av h,fN h,fN h]
theorem Xt{c d:Bool}:(bif c then true else d)=(c||d):=by cases c<;>rfl
theorem len_nil{α:Type}{l:List α}(h:decide ((l.length:Int)>0)=false):l=[]:=by
 cases l with
 |nil=>rfl
 |cons a r=>simp at h
theorem Iw{r:Rule}{t:Int}(h:lC r t=false) :
  (r.kind≠1->r.guards=[]/\r.ex=[]/\r.all=[]/\r.send=[])/\(r.kind≠1->r.kind≠2->r.kind≠3->r.read= -1/\r.write= -1) /\
  (r.kind≠3->r.response=[])/\(r.kind≠5->r.direction=0)/\(r.kind≠4->r.pos=0/\r.left=[]/\r.right=[])/\(¬(r.kind=4/\t=4)->r.parent=[]):=by
 simp only[lC,Xt,bi] at h;obtain⟨h1,h2,h3,⟨h4,h5⟩,h6,h7⟩:=h;refine⟨fun k=>?_,fun k1 k2 k3=>?_,fun k=>?_,fun k=>?_,fun k=>?_,fun k=>?_⟩
 ·simp only[cE.2 k,gE,cj,bi] at h1;exact⟨len_nil h1.1.1.1,len_nil h1.1.1.2,len_nil h1.1.2,len_nil h1.2⟩
 ·simp only[cE.2 k1,cE.2 k2,cE.2 k3,gE,cj,bi] at h2;exact⟨Vq h2.1,Vq h2.2⟩
 ·simp only[cE.2 k,gE,cj] at h4;exact len_nil h4
 ·simp only[cE.2 k,gE,cj] at h5;exact Vq h5
 ·simp only[cE.2 k,gE,cj,bi] at h6;exact⟨Vq h6.1.1,len_nil h6.1.2,len_nil h6.2⟩
 ·refine len_nil ?_;rw[cC] at h7;rcases h7 with h7|h7
  ·exact h7
  ·simp only[da,aD,bo] at h7;exact absurd h7 k
theorem kind_eq{r:Rule}{t:Int}:((!(dX r.kind 1 5)||(decide (r.kind<=3) !=(t==1)))||lC r t)=(!(wQ r.kind t)||kS r t):=by
 by_cases hk:1<=r.kind/\r.kind<=5
 ·rw[xP hk]
  congr 1
  have hk':r.kind=1\/r.kind=2\/r.kind=3\/r.kind=4\/r.kind=5:=by omega
  rcases hk' with e|e|e|e|e<;>rw[e]<;>cases ht:(t==1)<;>simp[dX,wQ,ht]
 ·have h1:dX r.kind 1 5=false:=by rw[dX,cC]; simp; omega
  have h2:wQ r.kind t=false:=by
   have:r.kind≠1/\r.kind≠2/\r.kind≠3/\r.kind≠4/\r.kind≠5:=by omega
   obtain⟨a,b,c,d,e⟩:=this;simp[wQ,a,b,c,d,e]
  rw[h1,h2]; rfl
theorem J7(p:aB)(r:Rule):(y5 p r !=0)=(sO r.fr p.states.length||sO r.to p.states.length):=by
 simp only[y5,dn];cases sO r.fr p.states.length<;>cases sO r.to p.states.length<;>rfl
theorem ahD(p:aB)(r:Rule)(h:(y5 p r !=0)=true):y5 p r=5:=by
 rw[J7] at h;simp only[y5,dn];revert h;cases sO r.fr p.states.length<;>cases sO r.to p.states.length<;>intro h<;>first|rfl|cases h
theorem D5(n:Int):jr [] n=0:=rfl
theorem aaE(x:Int):bJ [x,0,0,0,0,0,0]=bJ [x]:=by
 simp only[bJ]; simp
theorem Fj{a:Int}{X Y:List Int}(h:bJ X=bJ Y):bJ (a::X)=bJ (a::Y):=by simp only[bJ,h]
theorem Xn(x:Int):bJ [x,0,0,0,0,0,0,0]=bJ [x]:=by
 simp only[bJ]; simp
theorem Xo(x:Int):bJ [x,0,0]=bJ [x]:=by
 simp only[bJ]; simp
theorem NW(p:aB)(r:Rule):bJ [eF (Cc p r) 5,0,0,0,0,0,0,0]=bJ [jJ p r.read,jJ p r.write]:=by
 rw[vals_eq,adC _ _ _ _ (by decide)];exact Fj (Xn _)
theorem adD(p:aB)(i:Nat):AU p i=gQ p i:=by
 simp only[AU,gQ,uD,qR];generalize p.rules.getD i default=r;cases hv:validName r.name with
 |false=>rfl
 |true =>
 cases ha:(p.rules.take i).any (fun x=>x.name==r.name) with
 |true=>rfl
 |false =>
 simp only[JO,kind_eq,Bool.not_true,fk,bB];cases hk:(!(wQ r.kind p.topology)||kS r p.topology) with
 |true=>rfl
 |false =>
 have hk2:=hk;rw[<- kind_eq,bi,bi,da] at hk2;obtain⟨⟨k1,_⟩,k2⟩:=hk2;obtain⟨u1,u2,u3,u4,u5,u6⟩:=Iw k2;have hk':r.kind=1\/r.kind=2\/r.kind=3\/r.kind=4\/r.kind=5:=by
  simp only[dX,aD,ab] at k1; omega
 cases he:(y5 p r !=0) with
 |true =>
  rw[ahD p r he];rw[J7] at he;simp only[JM,Gl,he]; rfl
 |false =>
 rw[J7] at he;simp only[JM,Gl,he,cv,bB];rcases hk' with e|e|e|e|e
 ·have a5:=u5 (by omega);have m4:Gh p r=false:=by simp[Gh,e]
  have d1:Gi p r=false:=by simp[Gi,e]
  have d2:Gj p r=false:=by simp[Gj,e]
  simp only[iK,m4,d1,d2,a5.2.1,a5.2.2,u6 (by omega),e,D5,Int.reduceBEq,Bool.or_self,Bool.false_and,bB,bS];rw[Rq];refine Fj (Fj (Fj (Fj ?_)));rw[vals_eq,adC _ _ _ _ (by decide)];refine Fj (Fj ?_);exact aaE _
 ·obtain⟨g1,g2,g3,g4⟩:=u1 (by omega);have a5:=u5 (by omega);have m4:Gh p r=false:=by simp[Gh,e]
  have d1:Gi p r=false:=by simp[Gi,e]
  have d2:Gj p r=false:=by simp[Gj,e]
  simp only[iK,m4,d1,d2,g1,g2,g3,g4,a5.2.1,a5.2.2,u6 (by omega),e,D5,Int.reduceBEq,fk,cj,bB,bS,dn];cases sO r.dZ p.states.length with
  |true=>rfl
  |false =>
   cases sO r.y7 p.states.length with
   |true=>rfl
   |false=>exact NW p r
 ·obtain⟨g1,g2,g3,g4⟩:=u1 (by omega);have a5:=u5 (by omega);have m4:Gh p r=false:=by simp[Gh,e]
  have d1:Gi p r=false:=by simp[Gi,e]
  have d2:Gj p r=false:=by simp[Gj,e]
  simp only[iK,m4,d1,d2,g1,g2,g3,g4,a5.2.1,a5.2.2,u6 (by omega),e,D5,Int.reduceBEq,Bool.or_self,Bool.false_and,bB,bS,Gq];cases ((r.response.length:Int) !=p.states.length) with
  |true=>rfl
  |false =>
   simp only[bB];by_cases hz:qV r.response p.states.length=0
   ·rw[hz]; exact NW p r
   ·rw[show(qV r.response p.states.length !=0)=true by simpa using hz,fN hz]; rfl
 ·obtain⟨g1,g2,g3,g4⟩:=u1 (by omega);obtain⟨v1,v2⟩:=u2 (by omega) (by omega) (by omega);have m4:Gh p r=adE p r:=by
   simp only[Gh,adE,e,sF]; rfl
  have d1:Gi p r=false:=by simp[Gi,e]
  have d2:Gj p r=false:=by simp[Gj,e]
  have vv:Cc p r=false:=by simp[Cc,v1,v2]
  simp only[iK,m4,d1,d2,vv,g1,g2,g3,g4,e,D5,Int.reduceBEq,Bool.or_self,Bool.false_and,bB,bS];exact Fj (Fj (Fj (Xo _)))
 ·obtain⟨g1,g2,g3,g4⟩:=u1 (by omega);obtain⟨v1,v2⟩:=u2 (by omega) (by omega) (by omega);have a5:=u5 (by omega);have m4:Gh p r=false:=by simp[Gh,e]
  have vv:Cc p r=false:=by simp[Cc,v1,v2]
  have d1:Gi p r=((p.topology==4)&&(decide (r.direction<3)||decide (r.direction>4))):=by
   simp only[Gi,e,sF]; rfl
  have d2:Gj p r=(!(p.topology==4)&&(decide (r.direction<1)||decide (r.direction>2))):=by
   simp only[Gj,e,sF]; rfl
  simp only[iK,m4,d1,d2,vv,g1,g2,g3,g4,a5.2.1,a5.2.2,u6 (by omega),e,D5,Int.reduceBEq,Bool.or_true,cj,bB,dn];cases sO r.dZ p.states.length with
  |true=>cases (p.topology==4)<;>rfl
  |false =>
   cases sO r.y7 p.states.length with
   |true=>cases (p.topology==4)<;>rfl
   |false =>
    cases (p.topology==4) with
    |true=>cases (decide (r.direction<3)||decide (r.direction>4))<;>rfl
    |false=>cases (decide (r.direction<1)||decide (r.direction>2))<;>rfl
theorem adF{p:aB}:(!(dX p.topology 1 4)|| !(dX p.fault 0 3))=wP p:=by
 simp only[sF,wP,Bool.or_assoc]
theorem S.aaF(p:aB)(i:Nat)(hi:i<p.rules.length)(hp:dJ p):aj Tryz.prog 36 [.dat (.fM p),.int i] (.int (gQ p i)):=by
 rw[<- adD]; exact S.DZ p i hi hp
theorem aiY{h:Hz}{j:Nat}{Z:Nat->Prop}{l:List Str}(hz:Z j)(q:h.get j=some (.row 9 0 (.strs l) [])):T.sub Z h.au (V.row 0 false (.strs l)).aI (V.own j).aI:=by
 show T.sub Z h.au (.sl 0 false (l.map eS)) (.own j);simp only[T.sub];refine⟨trivial,hz,?_,by decide,9,?_⟩
 ·rw[ig]; intro t ht; obtain⟨x,_,rfl⟩:=bA.1 ht; rfl
 ·have:=aP q;rw[this]; simp[OV.ay,Rw.aQ,V.aQ]
theorem S.pV(p:aB)(hp:dJ p):aj Tryz.prog 13 [.dat (.fM p)] (.int (aW p)):=by
 have g1:=hp.states; have g2:=hp.messages; have g3:=hp.values; have g4:=hp.bY; have g5:=hp.initial; have g6:=hp.leader; have g7:=hp.rules;refine aj.of Bd.pV (by simp) rfl rfl ?_;refine ah.pure (S.kZ p.name) rfl ?_;refine⟨fun h1=>?_,fun h1=>?_⟩
 ·conv=>whnf
  exact ak.int (by rw[aW,h1]; rfl)
 refine ah.pure (S.aY p.topology 1 4) rfl ?_;repeat(refine VC.mk id ?_)
 refine ah.eY (fun _=>S.aY p.fault 0 3) rfl ?_;repeat(refine VC.mk (by first|exact id|(intro h; rw[h]; rfl)) ?_)
 refine⟨fun h2=>?_,fun h2=>?_⟩
 ·conv=>whnf
  rw[adF] at h2;exact ak.int (by rw[aW,h1,h2]; rfl)
 rw[adF] at h2;refine⟨fun h3=>?_,fun h3=>?_⟩
 ·conv=>whnf
  exact ak.int (by rw[aW,h1,h2,show((p.states.length:Int)==0)=true from h3]; rfl)
 replace h3:((p.states.length:Int)==0)=false:=h3;repeat(refine VC.mk (by first|exact id|(intro h; rw[h]; rfl)) ?_)
 refine⟨fun h4=>?_,fun h4=>?_⟩
 ·conv=>whnf
  exact ak.int (by rw[aW,h1,h2,h3,show xO p=true from h4]; rfl)
 replace h4:xO p=false:=h4;have h0:0<p.states.length:=by
  rcases Nat.eq_zero_or_pos p.states.length with e|e
  ·rw[e] at h3; exact absurd h3 (by decide)
  ·exact e
 have hlen:(allNames p).length<2^30:=by simp only[allNames,aL]; omega
 repeat(refine VC.mk (by simp only[mD,mV,Rw.len,aL]; omega) ?_)
 refine aF.fz 3 57 0 (.strs (allNames p)) rfl rfl (aiY rfl rfl) ?_;refine aF.same [1,3] (fun i:Nat=>[(4,.int i)]) (fun i=>i<=(allNames p).length/\(List.range i).any (Rt (allNames p))=false) (fun i=>(allNames p).length-i) 0 rfl (by decide) rfl (fun _=>rfl) ⟨ap _,rfl⟩ ⟨⟨_,rfl,rfl⟩,trivial⟩ ?_;refine⟨rfl,?_⟩;rintro i ⟨hi,hall⟩;refine⟨fun h5=>?_,fun h5=>?_⟩
 ·have hi':i<(allNames p).length:=by have:(i:Int)<((allNames p).length:Int):=aq h5; omega
  refine .mk (by simp only[Rw.rng] at *; omega) ?_;refine ah.pure (S.kZ ((allNames p).getD i [])) rfl ?_;repeat(refine VC.mk (by first|exact id|exact fun h=>⟨h,h⟩|(intro h; (repeat' apply And.intro)<;>first|exact h|omega|(simp only[Rw.sH]; omega)|(simp only[Rw.rng]; omega))) ?_)
  refine ah.eY (fun _=>S.rZ ((allNames p).take i) ((allNames p).getD i []) _ (by rw[bL]; omega)) rfl ?_;refine .mk (by intro h; rw[h]; rfl) ?_;refine⟨fun h6=>?_,fun h6=>?_⟩
  ·conv=>whnf
   refine ak.int ?_;rw[aW,h1,h2,h3,h4,show BP p=2 by rw[BP,xg.2 ⟨i,hi',h6⟩]; rfl]; rfl
  ·conv=>whnf
   refine .mk (by simp only[okI] at *; omega) ?_;refine⟨i+1,⟨by omega,?_⟩,by omega,⟨⟨_,rfl,rfl⟩,trivial⟩,?_,rfl⟩
   ·rw[ce,dz,hall];simp only[ez,List.any_nil,fk,cv]; exact h6
   ·repeat' (first|exact trivial|exact⟨_,rfl,rfl⟩|constructor)
 have hi':(allNames p).length<=i:=by have: ¬ ((i:Int)<((allNames p).length:Int)):=aR h5; omega
 have e:i=(allNames p).length:=fc hi hi';subst e;have h5:BP p=0:=by rw[BP,hall]; rfl
 clear hi hall hi' hlen;repeat(refine VC.mk (by first|exact id|(intro h; rw[h]; rfl)|(intro h; simp[h]; done)|(intro h; simp_all; done)) ?_)
 refine⟨fun h6=>?_,fun h6=>?_⟩
 ·conv=>whnf
  exact ak.int (by rw[aW,h1,h2,h3,h4,h5,show U5 p=true from h6]; rfl)
 replace h6:U5 p=false:=h6;refine aF.same [1] (fun i:Nat=>[(5,.int i)]) (fun i=>i<=p.bY.length/\(p.bY.take i).any (fun l=> !(UU l))=false) (fun i=>p.bY.length-i) 0 rfl (by decide) rfl (fun _=>rfl) ⟨by omega,by simp⟩ ⟨⟨_,rfl,rfl⟩,trivial⟩ ?_;refine⟨rfl,?_⟩;rintro i ⟨hi,hall⟩;refine⟨fun h7=>?_,fun h7=>?_⟩
 ·have hi':i<p.bY.length:=by simpa using h7
  refine .mk (by simp only[Rw.rng] at *; omega) ?_;refine ah.pure (S.BO (p.bY.getD i default)) rfl ?_;refine⟨fun h8=>?_,fun h8=>?_⟩
  ·conv=>whnf
   exact ak.int (by rw[aW,h1,h2,h3,h4,h5,h6,oJ (d:=default) hi' h8]; rfl)
  ·conv=>whnf
   refine .mk (by simp only[okI] at *; omega) ?_;refine⟨i+1,⟨by omega,?_⟩,by omega,⟨⟨_,rfl,rfl⟩,trivial⟩,?_,rfl⟩
   ·rw[sS (d:=default) hi' hall]; exact h8
   ·repeat' (first|exact trivial|exact⟨_,rfl,rfl⟩|constructor)
 have hi':p.bY.length<=i:=by simpa using h7
 rw[bk hi'] at hall;clear hi hi' h7;refine ah.pure (S.kF p.initial p.states.length false (by omega) ⟨by omega,by omega⟩) rfl ?_;refine⟨fun h7=>?_,fun h7=>?_⟩
 ·replace h7:=U4 h7
  have:zM p=jr p.initial p.states.length:=fN h7
  exact ak.int (by rw[aW,h1,h2,h3,h4,h5,h6,hall,this,show(jr p.initial p.states.length !=0)=true by simpa using h7]; rfl)
 replace h7:=EP h7;refine⟨fun h8=>?_,fun h8=>?_⟩
 ·replace h8:((p.initial.length:Int)==0)=true:=h8
  have:zM p=1:=by rw[zM,h7,h8]; rfl
  exact ak.int (by rw[aW,h1,h2,h3,h4,h5,h6,hall,this]; rfl)
 replace h8:((p.initial.length:Int)==0)=false:=h8;refine ah.pure (S.kF p.leader p.states.length false (by omega) ⟨by omega,by omega⟩) rfl ?_;refine⟨fun h9=>?_,fun h9=>?_⟩
 ·replace h9:=U4 h9
  have:zM p=jr p.leader p.states.length:=by rw[zM,h7,h8]; exact fN h9
  exact ak.int (by rw[aW,h1,h2,h3,h4,h5,h6,hall,this,show(jr p.leader p.states.length !=0)=true by simpa using h9]; rfl)
 replace h9:=EP h9;have h10:zM p=0:=by rw[zM,h7,h8,h9]; rfl
 refine aF.same [1] (fun i:Nat=>[(8,.int i)]) (fun i=>i<=p.rules.length/\Fp p=bJ (((List.range p.rules.length).drop i).map (gQ p))) (fun i=>p.rules.length-i) 0 rfl (by decide) rfl (fun _=>rfl) ⟨by omega,by simp[Fp]⟩ ⟨⟨_,rfl,rfl⟩,trivial⟩ ?_;refine⟨rfl,?_⟩;rintro i ⟨hi,hr⟩;refine⟨fun h11=>?_,fun h11=>?_⟩
 ·have hi':i<p.rules.length:=by simpa using h11
  rw[NY hi'] at hr;simp only[bJ] at hr;refine ah.pure (S.aaF p i hi' hp) rfl ?_;refine⟨fun h12=>?_,fun h12=>?_⟩
  ·conv=>whnf
   have ahE:gQ p i≠0:=U4 h12;rw[av ahE] at hr;exact ak.int (by rw[aW,h1,h2,h3,h4,h5,h6,hall,h10,hr,show(gQ p i !=0)=true from h12]; rfl)
  ·conv=>whnf
   refine .mk (by simp only[okI] at *; omega) ?_;conv=>whnf
   have ahE:gQ p i=0:=EP h12;rw[ba ahE] at hr;refine⟨i+1,⟨by omega,hr⟩,by omega,⟨⟨_,rfl,rfl⟩,trivial⟩,?_,rfl⟩;repeat' (first|exact trivial|exact⟨_,rfl,rfl⟩|constructor)
 have hi':p.rules.length<=i:=by simpa using h11
 rw[cD (by simpa using hi')] at hr;refine ah.pure (S.uz p hp) rfl ?_;refine⟨fun h12=>?_,fun h12=>?_⟩
 ·conv=>whnf
  exact ak.int (by rw[aW,h1,h2,h3,h4,h5,h6,hall,h10,hr,show decide (((AP p.rules).length:Int)>3)=true from h12]; rfl)
 ·conv=>whnf
  exact ak.int (by rw[aW,h1,h2,h3,h4,h5,h6,hall,h10,hr,show decide (((AP p.rules).length:Int)>3)=false from h12]; rfl)
def U6(p:aB)(i:Nat):V:=.agg [.bool (((p.topology==1)&&((p.values.length:Int)==0))&&(p.rules.take i).foldl U7 true),.bool (qg p&& !((p.rules.take i).foldl aaG false)),.bool ((p.topology==2)||(p.topology==3)),.bool (p.topology==4),.bool (qg p&&decide ((p.states.length:Int)<=4))]
def badR(r:Rule):Bool:=r.kind !=1||decide (r.fr>=r.to)||decide ((r.ex.length:Int)>0)||decide ((r.all.length:Int)>0)
theorem afN{acc:Bool}{r:Rule}(h:badR r=true):U7 acc r=false:=by
 simp only[badR,cS,bne_iff_ne,ab] at h;simp only[U7];rw[gC]; intro q;simp only[aD,bo,ab] at q;omega
theorem ahF{acc:Bool}{r:Rule}(h:badR r=false):U7 acc r=acc:=by
 simp only[badR,bi,eW,ao] at h;obtain⟨⟨⟨a,b⟩,c⟩,d⟩:=h;simp only[U7];rw[show(r.kind==1)=true from bo.2 a,cY (by omega),show((r.ex.length:Int)==0)=true from bo.2 (by omega),show((r.all.length:Int)==0)=true from bo.2 (by omega)];simp
theorem ajH(p:aB):U6 p 0= .agg [.bool ((p.topology==1)&&((p.values.length:Int)==0)),.bool (qg p),.bool ((p.topology==2)||(p.topology==3)),.bool (p.topology==4),.bool (qg p&&decide ((p.states.length:Int)<=4))]:=by
 simp[U6]
theorem Iq(p:aB){i:Nat}(hi:i<p.rules.length):U6 p (i+1) =
  .agg [.bool (bif badR (p.rules.getD i default) then false else((p.topology==1)&&((p.values.length:Int)==0))&&(p.rules.take i).foldl U7 true),
   .bool (bif decide (((p.rules.getD i default).all.length:Int)>0) then false else qg p&& !((p.rules.take i).foldl aaG false)),.bool ((p.topology==2)||(p.topology==3)),.bool (p.topology==4),.bool (qg p&&decide ((p.states.length:Int)<=4))]:=by
 simp only[U6,DY (d:=default) hi];cases hb:badR (p.rules.getD i default) with
 |true =>
  rw[afN hb,aaG];cases decide (((p.rules.getD i default).all.length:Int)>0)<;>simp
 |false =>
  rw[ahF hb,aaG];cases decide (((p.rules.getD i default).all.length:Int)>0)<;>simp
theorem S.uw(p:aB)(hp:dJ p):aj Tryz.prog 4 [.dat (.fM p)] (Js p):=by
 have g1:=hp.states; have g2:=hp.messages; have g3:=hp.values; have g4:=hp.bY; have g7:=hp.rules;refine aj.of Bd.uw (by simp) rfl rfl ?_;refine ah.pure (S.pV p hp) rfl ?_;refine⟨fun h1=>?_,fun h1=>?_⟩
 ·conv=>whnf
  refine ak.eqv ?_;rw[Js,h1]; rfl
 have h1':aW p=0:=EP h1;repeat(refine VC.mk (by first|exact id|(intro h; rw[h]; rfl)) ?_)
 refine aF.objs 100 [1,2,7] (fun i:Nat=>[(8,.int i)]) (fun i=>[(0,.box 27 11 (.dat (.fM p))),(1,.box 31 6 (aiZ Gw)),(58,.box 31 6 (U6 p i))]) (fun i=>i<=p.rules.length) (fun i=>p.rules.length-i) 0 [0,1,58] rfl (by decide) (fun _=>rfl) (ap _) ?_ ?_ ?_
 ·exact(sR rfl)
 ·refine⟨gK rfl rfl,gK rfl rfl,⟨rfl,nofun,rfl,rfl,rfl,_,rfl,rfl,rfl,dH.of_eq ?_⟩,trivial⟩;rw[ajH]; rfl
 refine⟨(sR rfl),rfl,?_⟩;rintro i hi;have g8:=hp.rule i;have g9:=g8.ex; have g10:=g8.all;refine⟨fun h3=>?_,fun h3=>?_⟩
 ·have hi':i<p.rules.length:=by simpa using h3
  repeat(refine VC.mk (by first|exact id|exact fun h=>⟨h,h⟩|(intro h; rw[h]; rfl)|(simp only[Rw.rng] at *; omega)) ?_)
  refine⟨fun h4=>?_,fun h4=>?_⟩
  ·replace h4:badR (p.rules.getD i default)=true:=h4;refine⟨fun h5=>?_,fun h5=>?_⟩
   ·replace h5:decide (((p.rules.getD i default).all.length:Int)>0)=true:=h5;refine .mk (by simp only[okI] at *; omega) ?_;refine⟨i+1,[0,1,58],by omega,by omega,(sR rfl),(sR rfl),gK rfl rfl,gK rfl rfl,⟨rfl,nofun,rfl,rfl,rfl,_,rfl,rfl,rfl,dH.of_eq ?_⟩,trivial⟩;rw[Iq p hi',h4,h5]; rfl
   ·replace h5:decide (((p.rules.getD i default).all.length:Int)>0)=false:=h5;refine .mk (by simp only[okI] at *; omega) ?_;refine⟨i+1,[0,1,58],by omega,by omega,(sR rfl),(sR rfl),gK rfl rfl,gK rfl rfl,⟨rfl,nofun,rfl,rfl,rfl,_,rfl,rfl,rfl,dH.of_eq ?_⟩,trivial⟩;rw[Iq p hi',h4,h5]; rfl
  ·replace h4:badR (p.rules.getD i default)=false:=h4;refine⟨fun h5=>?_,fun h5=>?_⟩
   ·replace h5:decide (((p.rules.getD i default).all.length:Int)>0)=true:=h5;refine .mk (by simp only[okI] at *; omega) ?_;refine⟨i+1,[0,1,58],by omega,by omega,(sR rfl),(sR rfl),gK rfl rfl,gK rfl rfl,⟨rfl,nofun,rfl,rfl,rfl,_,rfl,rfl,rfl,dH.of_eq ?_⟩,trivial⟩;rw[Iq p hi',h4,h5]; rfl
   ·replace h5:decide (((p.rules.getD i default).all.length:Int)>0)=false:=h5;refine .mk (by simp only[okI] at *; omega) ?_;refine⟨i+1,[0,1,58],by omega,by omega,(sR rfl),(sR rfl),gK rfl rfl,gK rfl rfl,⟨rfl,nofun,rfl,rfl,rfl,_,rfl,rfl,rfl,dH.of_eq ?_⟩,trivial⟩;rw[Iq p hi',h4,h5]; rfl
 have hi':p.rules.length<=i:=by simpa using h3
 have e:i=p.rules.length:=fc hi hi';subst e;refine ak.eqv ?_;rw[Js,h1',iF];simp only[cB];rfl
theorem afp{x:Int}:(decide (x<0)||decide (1048576<x))= !(EH x):=by
 unfold EH; rw[cF]; simp
def zN(p:aB):Int:=bif aW p !=0 then aW p else bif !(iF p).cover&& !(iF p).monadic then 7 else 0
def uF(p:aB)(e:Elem):Bool:=((((e.counts.length:Int) !=p.states.length)|| !(e.counts.all EH))||decide (e.value<0))||decide (e.value>=max 1 (p.values.length:Int))
def xQ(p:aB)(e:Elem):Int:=bif zN p !=0 then zN p else eF (uF p e) 1
theorem ai0(p:aB):zN p=bif ((aW p==0)&& !(bif aW p !=0 then Gw else iF p).cover&& !(bif aW p !=0 then Gw else iF p).monadic) then 7 else aW p:=by
 unfold zN bne;cases hz:aW p==0 with
 |true=>simp only[Bool.not_true,bB,cj]; rw[show aW p=0 from bo.1 hz]
 |false=>rfl
theorem S.jm(p:aB)(hp:dJ p):aj Tryz.prog 20 [.dat (.fM p)] (.int (zN p)):=by
 refine aj.of Bd.jm (by simp) rfl rfl ?_;refine ah.pure (S.iG p hp) rfl ?_;repeat(refine VC.mk id ?_)
 refine⟨fun h1=>?_,fun h1=>?_⟩
 ·conv=>whnf
  exact ak.int (by rw[ai0,h1]; rfl)
 ·conv=>whnf
  exact ak.int (by rw[ai0,h1]; rfl)
theorem S.gY(p:aB)(e:Elem)(hp:dJ p)(he:e.counts.length<2^30):aj Tryz.prog 49 [.dat (.fM p),.dat (.elem e)] (.int (eF (uF p e) 1)):=by
 have g1:=hp.states;have g3:=hp.values;refine aj.of Bd.gY (by simp) rfl rfl ?_;repeat(refine VC.mk id ?_)
 refine ah.eY (fun _=>S.kV e.counts false (by omega)) rfl ?_;repeat(refine VC.mk (by first|exact id|exact fun h=>⟨h,h⟩|(intro h; rw[h]; rfl)) ?_)
 refine⟨fun h1=>?_,fun h1=>?_⟩
 ·conv=>whnf
  exact ak.int (by rw[show uF p e=true from h1]; rfl)
 ·conv=>whnf
  exact ak.int (by rw[show uF p e=false from h1]; rfl)
theorem S.jK(p:aB)(e:Elem)(hp:dJ p)(he:e.counts.length<2^30):aj Tryz.prog 22 [.dat (.fM p),.dat (.elem e)] (.int (xQ p e)):=by
 refine aj.of Bd.jK (by simp) rfl rfl ?_;refine ah.pure (S.jm p hp) rfl ?_;refine⟨fun h1=>?_,fun h1=>?_⟩
 ·conv=>whnf
  exact ak.int (by rw[xQ,h1]; rfl)
 ·conv=>whnf
  refine ah.pure (S.gY p e hp he) rfl ?_;exact ak.int (by rw[xQ,h1]; rfl)
end Go.Proofs.YtbdbmfccbpfeoaaGreatDoor
