/-
 The two programs' rules for a protocol's rules say the same. No condition.
-/
import Derived.Test.YtdhobgbagphngaaGreatDoorRa
import Derived.Test.YtdhobgbagphngaaGreatDoorLg
namespace Go.Proofs.YtdhobgbagphngaaGreatDoor
open Go.Ab Go.Proofs
theorem EC{x n:Int}:(!(dP x 0 (n-1)))=rE x n:=by rw[oZ,Bool.not_not]
theorem vals_eq(p:aH)(r:Rule):Aq p r=((decide (r.read< -1)||decide (r.read>=p.values.length))||(decide (r.write< -1)||decide (r.write>=p.values.length))):=by
 simp only[Aq,EC,rE];rw[Bool.eq_iff_iff]; simp; omega
theorem aaU(a b:Bool)(v:Int)(r:List Int)(h:v≠0):bH (dV (a||b) v::r)=bH (dV a v::dV b v::r):=by
 cases a<;>cases b<;>simp[dV,bH,h]
theorem PN(p:aH)(l:List Ar)(r:List Int):bH (yx p l::r)=bH (jU p l::dV (decide ((l.length:Int)>2)) 4::r):=by
 by_cases h:jU p l=0
 ·rw[show yx p l=dV (decide ((l.length:Int)>2)) 4 from if_pos h,h]; rfl
 ·rw[show yx p l=jU p l from if_neg h,fN h,fN h]
theorem Vg{c d:Bool}:(bif c then true else d)=(c||d):=by cases c<;>rfl
theorem len_nil{α:Type}{l:List α}(h:decide ((l.length:Int)>0)=false):l=[]:=by
 cases l with
 |nil=>rfl
 |cons a r=>simp at h
theorem MG{r:Rule}{t:Int}(h:lY r t=false) :
  (r.kind≠1->r.guards=[]/\r.ex=[]/\r.all=[]/\r.send=[])/\(r.kind≠1->r.kind≠2->r.kind≠3->r.read= -1/\r.write= -1) /\
  (r.kind≠3->r.response=[])/\(r.kind≠5->r.direction=0)/\(r.kind≠4->r.pos=0/\r.left=[]/\r.right=[])/\(¬(r.kind=4/\t=4)->r.parent=[]):=by
 simp only[lY,Vg,Bool.or_eq_false_iff] at h;obtain⟨h1,h2,h3,⟨h4,h5⟩,h6,h7⟩:=h;refine⟨fun k=>?_,fun k1 k2 k3=>?_,fun k=>?_,fun k=>?_,fun k=>?_,fun k=>?_⟩
 ·simp only[beq_eq_false_iff_ne.2 k,Bool.not_false,Bool.true_and,Bool.or_eq_false_iff] at h1;exact⟨len_nil h1.1.1.1,len_nil h1.1.1.2,len_nil h1.1.2,len_nil h1.2⟩
 ·simp only[beq_eq_false_iff_ne.2 k1,beq_eq_false_iff_ne.2 k2,beq_eq_false_iff_ne.2 k3,Bool.not_false,Bool.true_and,Bool.or_eq_false_iff] at h2;exact⟨TD h2.1,TD h2.2⟩
 ·simp only[beq_eq_false_iff_ne.2 k,Bool.not_false,Bool.true_and] at h4;exact len_nil h4
 ·simp only[beq_eq_false_iff_ne.2 k,Bool.not_false,Bool.true_and] at h5;exact TD h5
 ·simp only[beq_eq_false_iff_ne.2 k,Bool.not_false,Bool.true_and,Bool.or_eq_false_iff] at h6;exact⟨TD h6.1.1,len_nil h6.1.2,len_nil h6.2⟩
 ·refine len_nil ?_;rw[Bool.and_eq_false_iff] at h7;rcases h7 with h7|h7
  ·exact h7
  ·simp only[Bool.not_eq_false',Bool.and_eq_true,beq_iff_eq] at h7;exact absurd h7 k
theorem kind_eq{r:Rule}{t:Int}:((!(dP r.kind 1 5)||(decide (r.kind<=3) !=(t==1)))||lY r t)=(!(vH r.kind t)||kM r t):=by
 by_cases hk:1<=r.kind/\r.kind<=5
 ·rw[AB hk]
  congr 1
  have hk':r.kind=1\/r.kind=2\/r.kind=3\/r.kind=4\/r.kind=5:=by omega
  rcases hk' with e|e|e|e|e<;>rw[e]<;>cases ht:(t==1)<;>simp[dP,vH,ht]
 ·have h1:dP r.kind 1 5=false:=by rw[dP,Bool.and_eq_false_iff]; simp; omega
  have h2:vH r.kind t=false:=by
   have:r.kind≠1/\r.kind≠2/\r.kind≠3/\r.kind≠4/\r.kind≠5:=by omega
   obtain⟨a,b,c,d,e⟩:=this;simp[vH,a,b,c,d,e]
  rw[h1,h2]; rfl
theorem IW(p:aH)(r:Rule):(xP p r !=0)=(rE r.fr p.states.length||rE r.to p.states.length):=by
 simp only[xP,cO];cases rE r.fr p.states.length<;>cases rE r.to p.states.length<;>rfl
theorem ae0(p:aH)(r:Rule)(h:(xP p r !=0)=true):xP p r=5:=by
 rw[IW] at h;simp only[xP,cO];revert h;cases rE r.fr p.states.length<;>cases rE r.to p.states.length<;>intro h<;>first|rfl|cases h
theorem Ce(n:Int):jf [] n=0:=rfl
theorem Yo(x:Int):bH [x,0,0,0,0,0,0]=bH [x]:=by
 simp only[bH]; simp
theorem DN{a:Int}{X Y:List Int}(h:bH X=bH Y):bH (a::X)=bH (a::Y):=by simp only[bH,h]
theorem Vb(x:Int):bH [x,0,0,0,0,0,0,0]=bH [x]:=by
 simp only[bH]; simp
theorem Vd(x:Int):bH [x,0,0]=bH [x]:=by
 simp only[bH]; simp
theorem LH(p:aH)(r:Rule):bH [dV (Aq p r) 5,0,0,0,0,0,0,0]=bH [jA p r.read,jA p r.write]:=by
 rw[vals_eq,aaU _ _ _ _ (by decide)];exact DN (Vb _)
theorem aaV(p:aH)(i:Nat):zF p i=gK p i:=by
 simp only[zF,gK,tq,rF];generalize p.rules.getD i default=r;cases hv:validName r.name with
 |false=>rfl
 |true =>
 cases ha:(p.rules.take i).any (fun x=>x.name==r.name) with
 |true=>rfl
 |false =>
 simp only[IB,kind_eq,Bool.not_true,Bool.or_false,cond_false];cases hk:(!(vH r.kind p.topology)||kM r p.topology) with
 |true=>rfl
 |false =>
 have hk2:=hk;rw[<- kind_eq,Bool.or_eq_false_iff,Bool.or_eq_false_iff,Bool.not_eq_false'] at hk2;obtain⟨⟨k1,_⟩,k2⟩:=hk2;obtain⟨u1,u2,u3,u4,u5,u6⟩:=MG k2;have hk':r.kind=1\/r.kind=2\/r.kind=3\/r.kind=4\/r.kind=5:=by
  simp only[dP,Bool.and_eq_true,decide_eq_true_eq] at k1; omega
 cases he:(xP p r !=0) with
 |true =>
  rw[ae0 p r he];rw[IW] at he;simp only[Iz,EC,he]; rfl
 |false =>
 rw[IW] at he;simp only[Iz,EC,he,Bool.false_or,cond_false];rcases hk' with e|e|e|e|e
 ·have a5:=u5 (by omega);have m4:Ew p r=false:=by simp[Ew,e]
  have d1:Ey p r=false:=by simp[Ey,e]
  have d2:Ez p r=false:=by simp[Ez,e]
  simp only[iq,m4,d1,d2,a5.2.1,a5.2.2,u6 (by omega),e,Ce,Int.reduceBEq,Bool.or_self,Bool.false_and,cond_false,cond_true];rw[PN];refine DN (DN (DN (DN ?_)));rw[vals_eq,aaU _ _ _ _ (by decide)];refine DN (DN ?_);exact Yo _
 ·obtain⟨g1,g2,g3,g4⟩:=u1 (by omega);have a5:=u5 (by omega);have m4:Ew p r=false:=by simp[Ew,e]
  have d1:Ey p r=false:=by simp[Ey,e]
  have d2:Ez p r=false:=by simp[Ez,e]
  simp only[iq,m4,d1,d2,g1,g2,g3,g4,a5.2.1,a5.2.2,u6 (by omega),e,Ce,Int.reduceBEq,Bool.or_false,Bool.true_and,cond_false,cond_true,cO];cases rE r.kG p.states.length with
  |true=>rfl
  |false =>
   cases rE r.Di p.states.length with
   |true=>rfl
   |false=>exact LH p r
 ·obtain⟨g1,g2,g3,g4⟩:=u1 (by omega);have a5:=u5 (by omega);have m4:Ew p r=false:=by simp[Ew,e]
  have d1:Ey p r=false:=by simp[Ey,e]
  have d2:Ez p r=false:=by simp[Ez,e]
  simp only[iq,m4,d1,d2,g1,g2,g3,g4,a5.2.1,a5.2.2,u6 (by omega),e,Ce,Int.reduceBEq,Bool.or_self,Bool.false_and,cond_false,cond_true,EJ];cases ((r.response.length:Int) !=p.states.length) with
  |true=>rfl
  |false =>
   simp only[cond_false];by_cases hz:qg r.response p.states.length=0
   ·rw[hz]; exact LH p r
   ·rw[show(qg r.response p.states.length !=0)=true by simpa using hz,fN hz]; rfl
 ·obtain⟨g1,g2,g3,g4⟩:=u1 (by omega);obtain⟨v1,v2⟩:=u2 (by omega) (by omega) (by omega);have m4:Ew p r=aaW p r:=by
   simp only[Ew,aaW,e,qX]; rfl
  have d1:Ey p r=false:=by simp[Ey,e]
  have d2:Ez p r=false:=by simp[Ez,e]
  have vv:Aq p r=false:=by simp[Aq,v1,v2]
  simp only[iq,m4,d1,d2,vv,g1,g2,g3,g4,e,Ce,Int.reduceBEq,Bool.or_self,Bool.false_and,cond_false,cond_true];exact DN (DN (DN (Vd _)))
 ·obtain⟨g1,g2,g3,g4⟩:=u1 (by omega);obtain⟨v1,v2⟩:=u2 (by omega) (by omega) (by omega);have a5:=u5 (by omega);have m4:Ew p r=false:=by simp[Ew,e]
  have vv:Aq p r=false:=by simp[Aq,v1,v2]
  have d1:Ey p r=((p.topology==4)&&(decide (r.direction<3)||decide (r.direction>4))):=by
   simp only[Ey,e,qX]; rfl
  have d2:Ez p r=(!(p.topology==4)&&(decide (r.direction<1)||decide (r.direction>2))):=by
   simp only[Ez,e,qX]; rfl
  simp only[iq,m4,d1,d2,vv,g1,g2,g3,g4,a5.2.1,a5.2.2,u6 (by omega),e,Ce,Int.reduceBEq,Bool.or_true,Bool.true_and,cond_false,cO];cases rE r.kG p.states.length with
  |true=>cases (p.topology==4)<;>rfl
  |false =>
   cases rE r.Di p.states.length with
   |true=>cases (p.topology==4)<;>rfl
   |false =>
    cases (p.topology==4) with
    |true=>cases (decide (r.direction<3)||decide (r.direction>4))<;>rfl
    |false=>cases (decide (r.direction<1)||decide (r.direction>2))<;>rfl
theorem aaX{p:aH}:(!(dP p.topology 1 4)|| !(dP p.fault 0 3))=vG p:=by
 simp only[qX,vG,Bool.or_assoc]
theorem S.Yp(p:aH)(i:Nat)(hi:i<p.rules.length)(hp:dG p):aj Tryz.prog 61 [.dat (.fK p),.int i] (.int (gK p i)):=by
 rw[<- aaV]; exact S.Cc p i hi hp
theorem agj{h:Hz}{j:Nat}{Z:Nat->Prop}{l:List Str}(hz:Z j)(q:h.get j=some (.row 9 0 (.strs l) [])):T.sub Z h.au (V.row 0 false (.strs l)).aG (V.own j).aG:=by
 show T.sub Z h.au (.sl 0 false (l.map eS)) (.own j);simp only[T.sub];refine⟨trivial,hz,?_,by decide,9,?_⟩
 ·rw[iw]; intro t ht; obtain⟨x,_,rfl⟩:=List.mem_map.1 ht; rfl
 ·have:=aP q;rw[this]; simp[OV.aA,Rw.aT,V.aT]
theorem S.oW(p:aH)(hp:dG p):aj Tryz.prog 33 [.dat (.fK p)] (.int (aX p)):=by
 have g1:=hp.states; have g2:=hp.messages; have g3:=hp.values; have g4:=hp.bU; have g5:=hp.initial; have g6:=hp.leader; have g7:=hp.rules;refine aj.of Bd.oW (by simp) rfl rfl ?_;refine ah.pure (S.kR p.name) rfl ?_;refine⟨fun h1=>?_,fun h1=>?_⟩
 ·conv=>whnf
  exact ak.int (by rw[aX,h1]; rfl)
 refine ah.pure (S.aY p.topology 1 4) rfl ?_;repeat(refine VC.mk id ?_)
 refine ah.eG (fun _=>S.aY p.fault 0 3) rfl ?_;repeat(refine VC.mk (by first|exact id|(intro h; rw[h]; rfl)) ?_)
 refine⟨fun h2=>?_,fun h2=>?_⟩
 ·conv=>whnf
  rw[aaX] at h2;exact ak.int (by rw[aX,h1,h2]; rfl)
 rw[aaX] at h2;refine⟨fun h3=>?_,fun h3=>?_⟩
 ·conv=>whnf
  exact ak.int (by rw[aX,h1,h2,show((p.states.length:Int)==0)=true from h3]; rfl)
 replace h3:((p.states.length:Int)==0)=false:=h3;repeat(refine VC.mk (by first|exact id|(intro h; rw[h]; rfl)) ?_)
 refine⟨fun h4=>?_,fun h4=>?_⟩
 ·conv=>whnf
  exact ak.int (by rw[aX,h1,h2,h3,show wE p=true from h4]; rfl)
 replace h4:wE p=false:=h4;have h0:0<p.states.length:=by
  rcases Nat.eq_zero_or_pos p.states.length with e|e
  ·rw[e] at h3; exact absurd h3 (by decide)
  ·exact e
 have hlen:(allNames p).length<2^30:=by simp only[allNames,List.length_append]; omega
 repeat(refine VC.mk (by simp only[mJ,nP,Rw.len,List.length_append]; omega) ?_)
 refine aC.fz 3 57 0 (.strs (allNames p)) rfl rfl (agj rfl rfl) ?_;refine aC.same [1,3] (fun i:Nat=>[(4,.int i)]) (fun i=>i<=(allNames p).length/\(List.range i).any (PO (allNames p))=false) (fun i=>(allNames p).length-i) 0 rfl (by decide) rfl (fun _=>rfl) ⟨Nat.zero_le _,rfl⟩ ⟨⟨_,rfl,rfl⟩,trivial⟩ ?_;refine⟨rfl,?_⟩;rintro i ⟨hi,hall⟩;refine⟨fun h5=>?_,fun h5=>?_⟩
 ·have hi':i<(allNames p).length:=by have:(i:Int)<((allNames p).length:Int):=of_decide_eq_true h5; omega
  refine .mk (by simp only[Rw.rng] at *; omega) ?_;refine ah.pure (S.kR ((allNames p).getD i [])) rfl ?_;repeat(refine VC.mk (by first|exact id|exact fun h=>⟨h,h⟩|(intro h; (repeat' apply And.intro)<;>first|exact h|omega|(simp only[Rw.rJ]; omega)|(simp only[Rw.rng]; omega))) ?_)
  refine ah.eG (fun _=>S.qW ((allNames p).take i) ((allNames p).getD i []) _ (by rw[List.length_take]; omega)) rfl ?_;refine .mk (by intro h; rw[h]; rfl) ?_;refine⟨fun h6=>?_,fun h6=>?_⟩
  ·conv=>whnf
   refine ak.int ?_;rw[aX,h1,h2,h3,h4,show Af p=2 by rw[Af,Ci.2 ⟨i,hi',h6⟩]; rfl]; rfl
  ·conv=>whnf
   refine .mk (by simp only[okI] at *; omega) ?_;refine⟨i+1,⟨by omega,?_⟩,by omega,⟨⟨_,rfl,rfl⟩,trivial⟩,?_,rfl⟩
   ·rw[List.range_succ,List.any_append,hall];simp only[List.any_cons,List.any_nil,Bool.or_false,Bool.false_or]; exact h6
   ·repeat' (first|exact trivial|exact⟨_,rfl,rfl⟩|constructor)
 have hi':(allNames p).length<=i:=by have: ¬ ((i:Int)<((allNames p).length:Int)):=of_decide_eq_false h5; omega
 have e:i=(allNames p).length:=Nat.le_antisymm hi hi';subst e;have h5:Af p=0:=by rw[Af,hall]; rfl
 clear hi hall hi' hlen;repeat(refine VC.mk (by first|exact id|(intro h; rw[h]; rfl)|(intro h; simp[h]; done)|(intro h; simp_all; done)) ?_)
 refine⟨fun h6=>?_,fun h6=>?_⟩
 ·conv=>whnf
  exact ak.int (by rw[aX,h1,h2,h3,h4,h5,show SV p=true from h6]; rfl)
 replace h6:SV p=false:=h6;refine aC.same [1] (fun i:Nat=>[(5,.int i)]) (fun i=>i<=p.bU.length/\(p.bU.take i).any (fun l=> !(SE l))=false) (fun i=>p.bU.length-i) 0 rfl (by decide) rfl (fun _=>rfl) ⟨by omega,by simp⟩ ⟨⟨_,rfl,rfl⟩,trivial⟩ ?_;refine⟨rfl,?_⟩;rintro i ⟨hi,hall⟩;refine⟨fun h7=>?_,fun h7=>?_⟩
 ·have hi':i<p.bU.length:=by simpa using h7
  refine .mk (by simp only[Rw.rng] at *; omega) ?_;refine ah.pure (S.Ae (p.bU.getD i default)) rfl ?_;refine⟨fun h8=>?_,fun h8=>?_⟩
  ·conv=>whnf
   exact ak.int (by rw[aX,h1,h2,h3,h4,h5,h6,lZ (d:=default) hi' h8]; rfl)
  ·conv=>whnf
   refine .mk (by simp only[okI] at *; omega) ?_;refine⟨i+1,⟨by omega,?_⟩,by omega,⟨⟨_,rfl,rfl⟩,trivial⟩,?_,rfl⟩
   ·rw[pK (d:=default) hi' hall]; exact h8
   ·repeat' (first|exact trivial|exact⟨_,rfl,rfl⟩|constructor)
 have hi':p.bU.length<=i:=by simpa using h7
 rw[List.take_of_length_le hi'] at hall;clear hi hi' h7;refine ah.pure (S.jT p.initial p.states.length false (by omega) ⟨by omega,by omega⟩) rfl ?_;refine⟨fun h7=>?_,fun h7=>?_⟩
 ·replace h7:=SQ h7
  have:yN p=jf p.initial p.states.length:=fN h7
  exact ak.int (by rw[aX,h1,h2,h3,h4,h5,h6,hall,this,show(jf p.initial p.states.length !=0)=true by simpa using h7]; rfl)
 replace h7:=AA h7;refine⟨fun h8=>?_,fun h8=>?_⟩
 ·replace h8:((p.initial.length:Int)==0)=true:=h8
  have:yN p=1:=by rw[yN,h7,h8]; rfl
  exact ak.int (by rw[aX,h1,h2,h3,h4,h5,h6,hall,this]; rfl)
 replace h8:((p.initial.length:Int)==0)=false:=h8;refine ah.pure (S.jT p.leader p.states.length false (by omega) ⟨by omega,by omega⟩) rfl ?_;refine⟨fun h9=>?_,fun h9=>?_⟩
 ·replace h9:=SQ h9
  have:yN p=jf p.leader p.states.length:=by rw[yN,h7,h8]; exact fN h9
  exact ak.int (by rw[aX,h1,h2,h3,h4,h5,h6,hall,this,show(jf p.leader p.states.length !=0)=true by simpa using h9]; rfl)
 replace h9:=AA h9;have h10:yN p=0:=by rw[yN,h7,h8,h9]; rfl
 refine aC.same [1] (fun i:Nat=>[(8,.int i)]) (fun i=>i<=p.rules.length/\DU p=bH (((List.range p.rules.length).drop i).map (gK p))) (fun i=>p.rules.length-i) 0 rfl (by decide) rfl (fun _=>rfl) ⟨by omega,by simp[DU]⟩ ⟨⟨_,rfl,rfl⟩,trivial⟩ ?_;refine⟨rfl,?_⟩;rintro i ⟨hi,hr⟩;refine⟨fun h11=>?_,fun h11=>?_⟩
 ·have hi':i<p.rules.length:=by simpa using h11
  rw[LJ hi'] at hr;simp only[bH] at hr;refine ah.pure (S.Yp p i hi' hp) rfl ?_;refine⟨fun h12=>?_,fun h12=>?_⟩
  ·conv=>whnf
   have ae1:gK p i≠0:=SQ h12;rw[if_neg ae1] at hr;exact ak.int (by rw[aX,h1,h2,h3,h4,h5,h6,hall,h10,hr,show(gK p i !=0)=true from h12]; rfl)
  ·conv=>whnf
   refine .mk (by simp only[okI] at *; omega) ?_;conv=>whnf
   have ae1:gK p i=0:=AA h12;rw[if_pos ae1] at hr;refine⟨i+1,⟨by omega,hr⟩,by omega,⟨⟨_,rfl,rfl⟩,trivial⟩,?_,rfl⟩;repeat' (first|exact trivial|exact⟨_,rfl,rfl⟩|constructor)
 have hi':p.rules.length<=i:=by simpa using h11
 rw[List.drop_eq_nil_of_le (by simpa using hi')] at hr;refine ah.pure (S.sZ p hp) rfl ?_;refine⟨fun h12=>?_,fun h12=>?_⟩
 ·conv=>whnf
  exact ak.int (by rw[aX,h1,h2,h3,h4,h5,h6,hall,h10,hr,show decide (((zC p.rules).length:Int)>3)=true from h12]; rfl)
 ·conv=>whnf
  exact ak.int (by rw[aX,h1,h2,h3,h4,h5,h6,hall,h10,hr,show decide (((zC p.rules).length:Int)>3)=false from h12]; rfl)
def SX(p:aH)(i:Nat):V:=.agg [.bool (((p.topology==1)&&((p.values.length:Int)==0))&&(p.rules.take i).foldl SY true),.bool (o9 p&& !((p.rules.take i).foldl Yq false)),.bool ((p.topology==2)||(p.topology==3)),.bool (p.topology==4),.bool (o9 p&&decide ((p.states.length:Int)<=4))]
def badR(r:Rule):Bool:=r.kind !=1||decide (r.fr>=r.to)||decide ((r.ex.length:Int)>0)||decide ((r.all.length:Int)>0)
theorem ac1{acc:Bool}{r:Rule}(h:badR r=true):SY acc r=false:=by
 simp only[badR,Bool.or_eq_true,bne_iff_ne,decide_eq_true_eq] at h;simp only[SY];rw[Bool.eq_false_iff]; intro q;simp only[Bool.and_eq_true,beq_iff_eq,decide_eq_true_eq] at q;omega
theorem ae2{acc:Bool}{r:Rule}(h:badR r=false):SY acc r=acc:=by
 simp only[badR,Bool.or_eq_false_iff,bne_eq_false_iff_eq,decide_eq_false_iff_not] at h;obtain⟨⟨⟨a,b⟩,c⟩,d⟩:=h;simp only[SY];rw[show(r.kind==1)=true from beq_iff_eq.2 a,decide_eq_true (by omega),show((r.ex.length:Int)==0)=true from beq_iff_eq.2 (by omega),show((r.all.length:Int)==0)=true from beq_iff_eq.2 (by omega)];simp
theorem ag2(p:aH):SX p 0= .agg [.bool ((p.topology==1)&&((p.values.length:Int)==0)),.bool (o9 p),.bool ((p.topology==2)||(p.topology==3)),.bool (p.topology==4),.bool (o9 p&&decide ((p.states.length:Int)<=4))]:=by
 simp[SX]
theorem Gl(p:aH){i:Nat}(hi:i<p.rules.length):SX p (i+1) =
  .agg [.bool (bif badR (p.rules.getD i default) then false else((p.topology==1)&&((p.values.length:Int)==0))&&(p.rules.take i).foldl SY true),
   .bool (bif decide (((p.rules.getD i default).all.length:Int)>0) then false else o9 p&& !((p.rules.take i).foldl Yq false)),.bool ((p.topology==2)||(p.topology==3)),.bool (p.topology==4),.bool (o9 p&&decide ((p.states.length:Int)<=4))]:=by
 simp only[SX,Cb (d:=default) hi];cases hb:badR (p.rules.getD i default) with
 |true =>
  rw[ac1 hb,Yq];cases decide (((p.rules.getD i default).all.length:Int)>0)<;>simp
 |false =>
  rw[ae2 hb,Yq];cases decide (((p.rules.getD i default).all.length:Int)>0)<;>simp
theorem S.sQ(p:aH)(hp:dG p):aj Tryz.prog 13 [.dat (.fK p)] (H7 p):=by
 have g1:=hp.states; have g2:=hp.messages; have g3:=hp.values; have g4:=hp.bU; have g7:=hp.rules;refine aj.of Bd.sQ (by simp) rfl rfl ?_;refine ah.pure (S.oW p hp) rfl ?_;refine⟨fun h1=>?_,fun h1=>?_⟩
 ·conv=>whnf
  refine ak.eqv ?_;rw[H7,h1]; rfl
 have h1':aX p=0:=AA h1;repeat(refine VC.mk (by first|exact id|(intro h; rw[h]; rfl)) ?_)
 refine aC.objs 100 [1,2,7] (fun i:Nat=>[(8,.int i)]) (fun i=>[(0,.box 27 11 (.dat (.fK p))),(1,.box 44 6 (agk EM)),(58,.box 44 6 (SX p i))]) (fun i=>i<=p.rules.length) (fun i=>p.rules.length-i) 0 [0,1,58] rfl (by decide) (fun _=>rfl) (Nat.zero_le _) ?_ ?_ ?_
 ·exact(sR rfl)
 ·refine⟨iQ rfl rfl,iQ rfl rfl,⟨rfl,nofun,rfl,rfl,rfl,_,rfl,rfl,rfl,dQ.of_eq ?_⟩,trivial⟩;rw[ag2]; rfl
 refine⟨(sR rfl),rfl,?_⟩;rintro i hi;have g8:=hp.rule i;have g9:=g8.ex; have g10:=g8.all;refine⟨fun h3=>?_,fun h3=>?_⟩
 ·have hi':i<p.rules.length:=by simpa using h3
  repeat(refine VC.mk (by first|exact id|exact fun h=>⟨h,h⟩|(intro h; rw[h]; rfl)|(simp only[Rw.rng] at *; omega)) ?_)
  refine⟨fun h4=>?_,fun h4=>?_⟩
  ·replace h4:badR (p.rules.getD i default)=true:=h4;refine⟨fun h5=>?_,fun h5=>?_⟩
   ·replace h5:decide (((p.rules.getD i default).all.length:Int)>0)=true:=h5;refine .mk (by simp only[okI] at *; omega) ?_;refine⟨i+1,[0,1,58],by omega,by omega,(sR rfl),(sR rfl),iQ rfl rfl,iQ rfl rfl,⟨rfl,nofun,rfl,rfl,rfl,_,rfl,rfl,rfl,dQ.of_eq ?_⟩,trivial⟩;rw[Gl p hi',h4,h5]; rfl
   ·replace h5:decide (((p.rules.getD i default).all.length:Int)>0)=false:=h5;refine .mk (by simp only[okI] at *; omega) ?_;refine⟨i+1,[0,1,58],by omega,by omega,(sR rfl),(sR rfl),iQ rfl rfl,iQ rfl rfl,⟨rfl,nofun,rfl,rfl,rfl,_,rfl,rfl,rfl,dQ.of_eq ?_⟩,trivial⟩;rw[Gl p hi',h4,h5]; rfl
  ·replace h4:badR (p.rules.getD i default)=false:=h4;refine⟨fun h5=>?_,fun h5=>?_⟩
   ·replace h5:decide (((p.rules.getD i default).all.length:Int)>0)=true:=h5;refine .mk (by simp only[okI] at *; omega) ?_;refine⟨i+1,[0,1,58],by omega,by omega,(sR rfl),(sR rfl),iQ rfl rfl,iQ rfl rfl,⟨rfl,nofun,rfl,rfl,rfl,_,rfl,rfl,rfl,dQ.of_eq ?_⟩,trivial⟩;rw[Gl p hi',h4,h5]; rfl
   ·replace h5:decide (((p.rules.getD i default).all.length:Int)>0)=false:=h5;refine .mk (by simp only[okI] at *; omega) ?_;refine⟨i+1,[0,1,58],by omega,by omega,(sR rfl),(sR rfl),iQ rfl rfl,iQ rfl rfl,⟨rfl,nofun,rfl,rfl,rfl,_,rfl,rfl,rfl,dQ.of_eq ?_⟩,trivial⟩;rw[Gl p hi',h4,h5]; rfl
 have hi':p.rules.length<=i:=by simpa using h3
 have e:i=p.rules.length:=Nat.le_antisymm hi hi';subst e;refine ak.eqv ?_;rw[H7,h1',gW];simp only[List.take_length];rfl
theorem Gg{x:Int}:(decide (x<0)||decide (1048576<x))= !(Ag x):=by
 unfold Ag; rw[Bool.eq_iff_iff]; simp
def uX(p:aH):Int:=bif aX p !=0 then aX p else bif !(gW p).cover&& !(gW p).monadic then 7 else 0
def nX(p:aH)(e:Elem):Bool:=((((e.counts.length:Int) !=p.states.length)|| !(e.counts.all Ag))||decide (e.value<0))||decide (e.value>=max 1 (p.values.length:Int))
def o7(p:aH)(e:Elem):Int:=bif uX p !=0 then uX p else dV (nX p e) 1
theorem agl(p:aH):uX p=bif ((aX p==0)&& !(bif aX p !=0 then EM else gW p).cover&& !(bif aX p !=0 then EM else gW p).monadic) then 7 else aX p:=by
 unfold uX bne;cases hz:aX p==0 with
 |true=>simp only[Bool.not_true,cond_false,Bool.true_and]; rw[show aX p=0 from beq_iff_eq.1 hz]
 |false=>rfl
theorem agd(p:aH)(h:(aX p !=0)=false):uX p=bif !(bif aX p !=0 then EM else gW p).cover&& !(bif aX p !=0 then EM else gW p).monadic then 7 else 0:=by
 rw[uX,h]; rfl
theorem S.iW(p:aH)(hp:dG p):aj Tryz.prog 24 [.dat (.fK p)] (.int (uX p)):=by
 refine aj.of Bd.iW (by simp) rfl rfl ?_;refine ah.pure (S.gX p hp) rfl ?_;repeat(refine VC.mk id ?_)
 refine⟨fun h1=>?_,fun h1=>?_⟩
 ·conv=>whnf
  exact ak.int (by rw[agl,h1]; rfl)
 ·conv=>whnf
  exact ak.int (by rw[agl,h1]; rfl)
theorem S.gI(p:aH)(e:Elem)(hp:dG p)(he:e.counts.length<2^30):aj Tryz.prog 46 [.dat (.fK p),.dat (.elem e)] (.int (dV (nX p e) 1)):=by
 have g1:=hp.states;have g3:=hp.values;refine aj.of Bd.gI (by simp) rfl rfl ?_;repeat(refine VC.mk id ?_)
 refine ah.eG (fun _=>S.kQ e.counts false (by omega)) rfl ?_;repeat(refine VC.mk (by first|exact id|exact fun h=>⟨h,h⟩|(intro h; rw[h]; rfl)) ?_)
 refine⟨fun h1=>?_,fun h1=>?_⟩
 ·conv=>whnf
  exact ak.int (by rw[show nX p e=true from h1]; rfl)
 ·conv=>whnf
  exact ak.int (by rw[show nX p e=false from h1]; rfl)
theorem S.jK(p:aH)(e:Elem)(hp:dG p)(he:e.counts.length<2^30):aj Tryz.prog 27 [.dat (.fK p),.dat (.elem e)] (.int (o7 p e)):=by
 refine aj.of Bd.jK (by simp) rfl rfl ?_;refine ah.pure (S.iW p hp) rfl ?_;refine⟨fun h1=>?_,fun h1=>?_⟩
 ·conv=>whnf
  exact ak.int (by rw[o7,h1]; rfl)
 ·conv=>whnf
  refine ah.pure (S.gI p e hp he) rfl ?_;exact ak.int (by rw[o7,h1]; rfl)
theorem Ve(p:aH)(e:Elem):nX p e=(((((e.counts.length:Int) !=p.states.length)||decide (e.value<0))||decide (e.value>=max 1 (p.values.length:Int)))|| !(e.counts.all Ag)):=by
 unfold nX;cases ((e.counts.length:Int) !=p.states.length)<;>cases (e.counts.all Ag)<;>cases decide (e.value<0)<;>cases decide (e.value>=max 1 (p.values.length:Int))<;>rfl
theorem S.BZ(p:aH)(e:Elem)(hp:dG p)(he:e.counts.length<2^30):aj Tryz.prog 54 [.dat (.fK p),.dat (.elem e)] (.bool (!(nX p e))):=by
 have g1:=hp.states;have g3:=hp.values;refine aj.of Bd.BZ (by simp) rfl rfl ?_;repeat(refine VC.mk (by first|exact id|exact fun h=>⟨h,h⟩|(intro h; rw[h]; rfl)) ?_)
 refine⟨fun h1=>?_,fun h1=>?_⟩
 ·conv=>whnf
  refine ak.bool ?_;rw[Ve,show((((e.counts.length:Int) !=p.states.length)||decide (e.value<0))||decide (e.value>=max 1 (p.values.length:Int)))=true from h1]; rfl
 refine aC.same [2,3] (fun i:Nat=>[(5,.int i)]) (fun i=>i<=e.counts.length/\(e.counts.take i).all Ag=true) (fun i=>e.counts.length-i) 0 rfl (by decide) rfl (fun _=>rfl) ⟨by omega,by simp⟩ ⟨⟨_,rfl,rfl⟩,trivial⟩ ?_;refine⟨rfl,?_⟩;rintro i ⟨hi,hall⟩;refine⟨fun h3=>?_,fun h3=>?_⟩
 ·have hi':i<e.counts.length:=by simpa using h3
  repeat(refine VC.mk (by first|exact id|(intro h; rw[h]; rfl)|(intro h; (repeat' apply And.intro)<;>first|exact h|omega|(simp only[Rw.rJ]; omega)|(simp only[Rw.rng]; omega))|(simp only[Rw.rng] at *; omega)) ?_)
  refine⟨fun h4=>?_,fun h4=>?_⟩
  ·conv=>whnf
   refine ak.bool ?_;replace h4:(decide (e.counts.getD i 0<0)||decide (1048576<e.counts.getD i 0))=true:=h4;rw[Gg] at h4;rw[Ve,qh (d:=0) hi' (by simpa using h4)]; simp
  ·conv=>whnf
   refine .mk (by simp only[okI] at *; omega) ?_;conv=>whnf
   replace h4:(decide (e.counts.getD i 0<0)||decide (1048576<e.counts.getD i 0))=false:=h4;rw[Gg] at h4;refine⟨i+1,⟨by omega,?_⟩,by omega,⟨⟨_,rfl,rfl⟩,trivial⟩,?_,rfl⟩
   ·rw[tK (d:=0) hi' hall]; simpa using h4
   ·repeat' (first|exact trivial|exact⟨_,rfl,rfl⟩|constructor)
 ·have hi':e.counts.length<=i:=by simpa using h3
  rw[List.take_of_length_le hi'] at hall;refine ak.bool ?_;rw[Ve,hall,show((((e.counts.length:Int) !=p.states.length)||decide (e.value<0))||decide (e.value>=max 1 (p.values.length:Int)))=false from h1]; rfl
theorem S.zB(e:Elem)(hl:e.counts.length<2^40):aj Tryz.prog 30 [.dat (.elem e)] (.int (bD e)):=by
 refine aj.of Bd.zB (by simp) rfl rfl ?_;refine⟨fun h1=>?_,fun h1=>?_⟩
 ·have h:6<e.counts.length:=by
   have:(6:Int)<e.counts.length:=of_decide_eq_true h1
   omega
  exact ak.int (by rw[bD,if_pos h])
 have h: ¬ 6<e.counts.length:=by
  have: ¬ (6:Int)<e.counts.length:=of_decide_eq_false h1
  omega
 refine aC.same [1] (fun i:Nat=>[(4,.int i),(3,.int (e.counts.take i).sum)]) (fun i=>i<=e.counts.length/\(e.counts.take i).all Ag=true) (fun i=>e.counts.length-i) 0 rfl (by decide) rfl (fun _=>rfl) ⟨by omega,by simp⟩ ⟨⟨_,rfl,rfl⟩,⟨_,rfl,rfl⟩,trivial⟩ ?_;refine⟨rfl,?_⟩;rintro i ⟨hi,hall⟩;have hb:=yQ hall;have hb':((e.counts.take i).length:Int)<=6:=by simp; omega
 refine⟨fun h3=>?_,fun h3=>?_⟩
 ·have hi':i<e.counts.length:=by simpa using h3
  have hs:=Ql hi';repeat(refine VC.mk (by first|exact id|(intro h; rw[h]; rfl)|(intro h; (repeat' apply And.intro)<;>first|exact h|omega|(simp only[Rw.rJ]; omega)|(simp only[Rw.rng]; omega))|(simp only[Rw.rng] at *; omega)) ?_)
  refine⟨fun h4=>?_,fun h4=>?_⟩
  ·conv=>whnf
   replace h4:(decide (e.counts.getD i 0<0)||decide (1048576<e.counts.getD i 0))=true:=h4;rw[Gg] at h4;exact ak.int (by rw[bD,if_neg h,qh (d:=0) hi' (by simpa using h4)]; rfl)
  ·replace h4:(decide (e.counts.getD i 0<0)||decide (1048576<e.counts.getD i 0))=false:=h4;rw[Gg] at h4;have h4':Ag (e.counts.getD i 0)=true:=by simpa using h4
   have adC:(e.counts.take (i+1)).all Ag=true:=by rw[tK (d:=0) hi' hall]; exact h4'
   have hc:=yQ adC;have hc':((e.counts.take (i+1)).length:Int)<=6:=by simp; omega
   repeat(refine VC.mk (by first|(simp only[okI,Int.toNat_natCast] at *; rw[<- hs]; omega)|(simp only[okI,Rw.rng] at *; omega)) ?_)
   refine⟨i+1,⟨by omega,adC⟩,by omega,⟨⟨_,rfl,rfl⟩,⟨_,rfl,?_⟩,trivial⟩,?_,rfl⟩
   ·rw[hs]; simp[V.aG,rD]
   ·repeat' (first|exact trivial|exact⟨_,rfl,rfl⟩|constructor)
 ·have hi':e.counts.length<=i:=by simpa using h3
  rw[List.take_of_length_le hi'] at hall;rw[List.take_of_length_le hi'];exact ak.int (by rw[bD,if_neg h,if_pos hall])
end Go.Proofs.YtdhobgbagphngaaGreatDoor
