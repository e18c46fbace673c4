/-
 The two programs' rules for a protocol's rules say the same. No condition.
-/
import Derived.Test.YtdloaandiobgdaaGreatDoorRa
import Derived.Test.YtdloaandiobgdaaGreatDoorLg
namespace Go.Proofs.YtdloaandiobgdaaGreatDoor
open Go.Ab Go.Proofs
theorem zu{x n:Int}:(!(iq x 0 (n-1)))=tu x n:=by rw[sV,fh]
theorem vals_eq(p:aF)(r:Rule):Ei p r=((decide (r.read< -1)||decide (r.read>=p.values.length))||(decide (r.write< -1)||decide (r.write>=p.values.length))):=by
 simp only[Ei,zu,tu];rw[cR]; simp; omega
theorem agw(a b:Bool)(v:Int)(r:List Int)(h:v≠0):bP (fA (a||b) v::r)=bP (fA a v::fA b v::r):=by
 cases a<;>cases b<;>simp[fA,bP,h]
theorem UZ(p:aF)(l:List DR)(r:List Int):bP (xO p l::r)=bP (kY p l::fA (decide ((l.length:Int)>2)) 4::r):=by
 by_cases h:kY p l=0
 ·rw[show xO p l=fA (decide ((l.length:Int)>2)) 4 from bc h,h]; rfl
 ·rw[show xO p l=kY p l from bB h,fN h,fN h]
theorem ZB{c d:Bool}:(bif c then true else d)=(c||d):=by cases c<;>rfl
theorem len_nil{α:Type}{l:List α}(h:decide ((l.length:Int)>0)=false):l=[]:=by
 cases l with
 |nil=>rfl
 |cons a r=>simp at h
theorem Ky{r:Rule}{t:Int}(h:oU r t=false) :
  (r.kind≠1->r.guards=[]/\r.ex=[]/\r.all=[]/\r.send=[])/\(r.kind≠1->r.kind≠2->r.kind≠3->r.read= -1/\r.write= -1) /\
  (r.kind≠3->r.response=[])/\(r.kind≠5->r.direction=0)/\(r.kind≠4->r.pos=0/\r.left=[]/\r.right=[])/\(¬(r.kind=4/\t=4)->r.parent=[]):=by
 simp only[oU,ZB,bk] at h;obtain⟨h1,h2,h3,⟨h4,h5⟩,h6,h7⟩:=h;refine⟨fun k=>?_,fun k1 k2 k3=>?_,fun k=>?_,fun k=>?_,fun k=>?_,fun k=>?_⟩
 ·simp only[cE.2 k,gM,cV,bk] at h1;exact⟨len_nil h1.1.1.1,len_nil h1.1.1.2,len_nil h1.1.2,len_nil h1.2⟩
 ·simp only[cE.2 k1,cE.2 k2,cE.2 k3,gM,cV,bk] at h2;exact⟨X4 h2.1,X4 h2.2⟩
 ·simp only[cE.2 k,gM,cV] at h4;exact len_nil h4
 ·simp only[cE.2 k,gM,cV] at h5;exact X4 h5
 ·simp only[cE.2 k,gM,cV,bk] at h6;exact⟨X4 h6.1.1,len_nil h6.1.2,len_nil h6.2⟩
 ·refine len_nil ?_;rw[cH] at h7;rcases h7 with h7|h7
  ·exact h7
  ·simp only[dg,aD,bt] at h7;exact absurd h7 k
theorem kind_eq{r:Rule}{t:Int}:((!(iq r.kind 1 5)||(decide (r.kind<=3) !=(t==1)))||oU r t)=(!(yF r.kind t)||oI r t):=by
 by_cases hk:1<=r.kind/\r.kind<=5
 ·rw[zq hk]
  congr 1
  have hk':r.kind=1\/r.kind=2\/r.kind=3\/r.kind=4\/r.kind=5:=by omega
  rcases hk' with e|e|e|e|e<;>rw[e]<;>cases ht:(t==1)<;>simp[iq,yF,ht]
 ·have h1:iq r.kind 1 5=false:=by rw[iq,cH]; simp; omega
  have h2:yF r.kind t=false:=by
   have:r.kind≠1/\r.kind≠2/\r.kind≠3/\r.kind≠4/\r.kind≠5:=by omega
   obtain⟨a,b,c,d,e⟩:=this;simp[yF,a,b,c,d,e]
  rw[h1,h2]; rfl
theorem Nq(p:aF)(r:Rule):(Ah p r !=0)=(tu r.fr p.states.length||tu r.to p.states.length):=by
 simp only[Ah,dK];cases tu r.fr p.states.length<;>cases tu r.to p.states.length<;>rfl
theorem alq(p:aF)(r:Rule)(h:(Ah p r !=0)=true):Ah p r=5:=by
 rw[Nq] at h;simp only[Ah,dK];revert h;cases tu r.fr p.states.length<;>cases tu r.to p.states.length<;>intro h<;>first|rfl|cases h
theorem FQ(n:Int):jP [] n=0:=rfl
theorem ada(x:Int):bP [x,0,0,0,0,0,0]=bP [x]:=by
 simp only[bP]; simp
theorem G9{a:Int}{X Y:List Int}(h:bP X=bP Y):bP (a::X)=bP (a::Y):=by simp only[bP,h]
theorem Zq(x:Int):bP [x,0,0,0,0,0,0,0]=bP [x]:=by
 simp only[bP]; simp
theorem Zr(x:Int):bP [x,0,0]=bP [x]:=by
 simp only[bP]; simp
theorem Qo(p:aF)(r:Rule):bP [fA (Ei p r) 5,0,0,0,0,0,0,0]=bP [mQ p r.read,mQ p r.write]:=by
 rw[vals_eq,agw _ _ _ _ (by decide)];exact G9 (Zq _)
theorem agx(p:aF)(i:Nat):Dn p i=iW p i:=by
 simp only[Dn,iW,wO,uw];generalize p.rules.getD i default=r;cases hv:validName r.name with
 |false=>rfl
 |true =>
 cases ha:(p.rules.take i).any (fun x=>x.name==r.name) with
 |true=>rfl
 |false =>
 simp only[MP,kind_eq,Bool.not_true,fL,ap];cases hk:(!(yF r.kind p.topology)||oI r p.topology) with
 |true=>rfl
 |false =>
 have hk2:=hk;rw[<- kind_eq,bk,bk,dg] at hk2;obtain⟨⟨k1,_⟩,k2⟩:=hk2;obtain⟨u1,u2,u3,u4,u5,u6⟩:=Ky k2;have hk':r.kind=1\/r.kind=2\/r.kind=3\/r.kind=4\/r.kind=5:=by
  simp only[iq,aD,aq] at k1; omega
 cases he:(Ah p r !=0) with
 |true =>
  rw[alq p r he];rw[Nq] at he;simp only[MO,zu,he]; rfl
 |false =>
 rw[Nq] at he;simp only[MO,zu,he,cz,ap];rcases hk' with e|e|e|e|e
 ·have a5:=u5 (by omega);have m4:Iz p r=false:=by simp[Iz,e]
  have d1:IB p r=false:=by simp[IB,e]
  have d2:IC p r=false:=by simp[IC,e]
  simp only[jH,m4,d1,d2,a5.2.1,a5.2.2,u6 (by omega),e,FQ,Int.reduceBEq,Bool.or_self,fT,ap,bE];rw[UZ];refine G9 (G9 (G9 (G9 ?_)));rw[vals_eq,agw _ _ _ _ (by decide)];refine G9 (G9 ?_);exact ada _
 ·obtain⟨g1,g2,g3,g4⟩:=u1 (by omega);have a5:=u5 (by omega);have m4:Iz p r=false:=by simp[Iz,e]
  have d1:IB p r=false:=by simp[IB,e]
  have d2:IC p r=false:=by simp[IC,e]
  simp only[jH,m4,d1,d2,g1,g2,g3,g4,a5.2.1,a5.2.2,u6 (by omega),e,FQ,Int.reduceBEq,fL,cV,ap,bE,dK];cases tu r.dQ p.states.length with
  |true=>rfl
  |false =>
   cases tu r.yT p.states.length with
   |true=>rfl
   |false=>exact Qo p r
 ·obtain⟨g1,g2,g3,g4⟩:=u1 (by omega);have a5:=u5 (by omega);have m4:Iz p r=false:=by simp[Iz,e]
  have d1:IB p r=false:=by simp[IB,e]
  have d2:IC p r=false:=by simp[IC,e]
  simp only[jH,m4,d1,d2,g1,g2,g3,g4,a5.2.1,a5.2.2,u6 (by omega),e,FQ,Int.reduceBEq,Bool.or_self,fT,ap,bE,I5];cases ((r.response.length:Int) !=p.states.length) with
  |true=>rfl
  |false =>
   simp only[ap];by_cases hz:uI r.response p.states.length=0
   ·rw[hz]; exact Qo p r
   ·rw[show(uI r.response p.states.length !=0)=true by simpa using hz,fN hz]; rfl
 ·obtain⟨g1,g2,g3,g4⟩:=u1 (by omega);obtain⟨v1,v2⟩:=u2 (by omega) (by omega) (by omega);have m4:Iz p r=agy p r:=by
   simp only[Iz,agy,e,sN]; rfl
  have d1:IB p r=false:=by simp[IB,e]
  have d2:IC p r=false:=by simp[IC,e]
  have vv:Ei p r=false:=by simp[Ei,v1,v2]
  simp only[jH,m4,d1,d2,vv,g1,g2,g3,g4,e,FQ,Int.reduceBEq,Bool.or_self,fT,ap,bE];exact G9 (G9 (G9 (Zr _)))
 ·obtain⟨g1,g2,g3,g4⟩:=u1 (by omega);obtain⟨v1,v2⟩:=u2 (by omega) (by omega) (by omega);have a5:=u5 (by omega);have m4:Iz p r=false:=by simp[Iz,e]
  have vv:Ei p r=false:=by simp[Ei,v1,v2]
  have d1:IB p r=((p.topology==4)&&(decide (r.direction<3)||decide (r.direction>4))):=by
   simp only[IB,e,sN]; rfl
  have d2:IC p r=(!(p.topology==4)&&(decide (r.direction<1)||decide (r.direction>2))):=by
   simp only[IC,e,sN]; rfl
  simp only[jH,m4,d1,d2,vv,g1,g2,g3,g4,a5.2.1,a5.2.2,u6 (by omega),e,FQ,Int.reduceBEq,Bool.or_true,cV,ap,dK];cases tu r.dQ p.states.length with
  |true=>cases (p.topology==4)<;>rfl
  |false =>
   cases tu r.yT p.states.length with
   |true=>cases (p.topology==4)<;>rfl
   |false =>
    cases (p.topology==4) with
    |true=>cases (decide (r.direction<3)||decide (r.direction>4))<;>rfl
    |false=>cases (decide (r.direction<1)||decide (r.direction>2))<;>rfl
theorem agz{p:aF}:(!(iq p.topology 1 4)|| !(iq p.fault 0 3))=yE p:=by
 simp only[sN,yE,Bool.or_assoc]
theorem S.adb(p:aF)(i:Nat)(hi:i<p.rules.length)(hp:dW p):ak Tryz.prog 92 [.dat (.fM p),.int i] (.int (iW p i)):=by
 rw[<- agx]; exact S.Ag p i hi hp
theorem am2{h:Hz}{j:Nat}{Z:Nat->Prop}{l:List Str}(hz:Z j)(q:h.get j=some (.row 9 0 (.strs l) [])):T.sub Z h.aj (V.row 0 false (.strs l)).aI (V.own j).aI:=by
 show T.sub Z h.aj (.sl 0 false (l.map eS)) (.own j);simp only[T.sub];refine⟨trivial,hz,?_,by decide,9,?_⟩
 ·rw[iO]; intro t ht; obtain⟨x,_,rfl⟩:=ax.1 ht; rfl
 ·have:=aK q;rw[this]; simp[OV.au,Rw.aS,V.aS]
theorem S.qg(p:aF)(hp:dW p):ak Tryz.prog 56 [.dat (.fM p)] (.int (bV p)):=by
 have g1:=hp.states; have g2:=hp.messages; have g3:=hp.values; have g4:=hp.dL; have g5:=hp.initial; have g6:=hp.leader; have g7:=hp.rules;refine ak.of Bd.qg (by simp) rfl rfl ?_;refine ah.pure (S.jy p.name) rfl ?_;refine⟨fun h1=>?_,fun h1=>?_⟩
 ·conv=>whnf
  exact ay.int (by rw[bV,h1]; rfl)
 refine ah.pure (S.aZ p.topology 1 4) rfl ?_;repeat(refine VC.mk id ?_)
 refine ah.iJ (fun _=>S.aZ p.fault 0 3) rfl ?_;repeat(refine VC.mk (by first|exact id|(intro h; rw[h]; rfl)) ?_)
 refine⟨fun h2=>?_,fun h2=>?_⟩
 ·conv=>whnf
  rw[agz] at h2;exact ay.int (by rw[bV,h1,h2]; rfl)
 rw[agz] at h2;refine⟨fun h3=>?_,fun h3=>?_⟩
 ·conv=>whnf
  exact ay.int (by rw[bV,h1,h2,show((p.states.length:Int)==0)=true from h3]; rfl)
 replace h3:((p.states.length:Int)==0)=false:=h3;repeat(refine VC.mk (by first|exact id|(intro h; rw[h]; rfl)) ?_)
 refine⟨fun h4=>?_,fun h4=>?_⟩
 ·conv=>whnf
  exact ay.int (by rw[bV,h1,h2,h3,show zo p=true from h4]; rfl)
 replace h4:zo p=false:=h4;have h0:0<p.states.length:=by
  rcases Nat.eq_zero_or_pos p.states.length with e|e
  ·rw[e] at h3; exact absurd h3 (by decide)
  ·exact e
 have hlen:(allNames p).length<2^30:=by simp only[allNames,aL]; omega
 repeat(refine VC.mk (by simp only[kT,qX,Rw.len,aL]; omega) ?_)
 refine aG.fz 3 57 0 (.strs (allNames p)) rfl rfl (am2 rfl rfl) ?_;refine aG.same [1,3] (fun i:Nat=>[(4,.int i)]) (fun i=>i<=(allNames p).length/\(List.range i).any (U0 (allNames p))=false) (fun i=>(allNames p).length-i) 0 rfl (by decide) rfl (fun _=>rfl) ⟨ao _,rfl⟩ ⟨⟨_,rfl,rfl⟩,trivial⟩ ?_;refine⟨rfl,?_⟩;rintro i ⟨hi,hall⟩;refine⟨fun h5=>?_,fun h5=>?_⟩
 ·have hi':i<(allNames p).length:=by have:(i:Int)<((allNames p).length:Int):=ag h5; omega
  refine .mk (by simp only[Rw.rng] at *; omega) ?_;refine ah.pure (S.jy ((allNames p).getD i [])) rfl ?_;repeat(refine VC.mk (by first|exact id|exact fun h=>⟨h,h⟩|(intro h; (repeat' apply And.intro)<;>first|exact h|omega|(simp only[Rw.vT]; omega)|(simp only[Rw.rng]; omega))) ?_)
  refine ah.iJ (fun _=>S.pX ((allNames p).take i) ((allNames p).getD i []) _ (by rw[bR]; omega)) rfl ?_;refine .mk (by intro h; rw[h]; rfl) ?_;refine⟨fun h6=>?_,fun h6=>?_⟩
  ·conv=>whnf
   refine ay.int ?_;rw[bV,h1,h2,h3,h4,show Eb p=2 by rw[Eb,sJ.2 ⟨i,hi',h6⟩]; rfl]; rfl
  ·conv=>whnf
   refine .mk (by simp only[okI] at *; omega) ?_;refine⟨i+1,⟨by omega,?_⟩,by omega,⟨⟨_,rfl,rfl⟩,trivial⟩,?_,rfl⟩
   ·rw[cp,eT,hall];simp only[ez,List.any_nil,fL,cz]; exact h6
   ·repeat' (first|exact trivial|exact⟨_,rfl,rfl⟩|constructor)
 have hi':(allNames p).length<=i:=by have: ¬ ((i:Int)<((allNames p).length:Int)):=aM h5; omega
 have e:i=(allNames p).length:=gT hi hi';subst e;have h5:Eb p=0:=by rw[Eb,hall]; rfl
 clear hi hall hi' hlen;repeat(refine VC.mk (by first|exact id|(intro h; rw[h]; rfl)|(intro h; simp[h]; done)|(intro h; simp_all; done)) ?_)
 refine⟨fun h6=>?_,fun h6=>?_⟩
 ·conv=>whnf
  exact ay.int (by rw[bV,h1,h2,h3,h4,h5,show UU p=true from h6]; rfl)
 replace h6:UU p=false:=h6;refine aG.same [1] (fun i:Nat=>[(5,.int i)]) (fun i=>i<=p.dL.length/\(p.dL.take i).any (fun l=> !(XD l))=false) (fun i=>p.dL.length-i) 0 rfl (by decide) rfl (fun _=>rfl) ⟨by omega,by simp⟩ ⟨⟨_,rfl,rfl⟩,trivial⟩ ?_;refine⟨rfl,?_⟩;rintro i ⟨hi,hall⟩;refine⟨fun h7=>?_,fun h7=>?_⟩
 ·have hi':i<p.dL.length:=by simpa using h7
  refine .mk (by simp only[Rw.rng] at *; omega) ?_;refine ah.pure (S.yS (p.dL.getD i default)) rfl ?_;refine⟨fun h8=>?_,fun h8=>?_⟩
  ·conv=>whnf
   exact ay.int (by rw[bV,h1,h2,h3,h4,h5,h6,lD (d:=default) hi' h8]; rfl)
  ·conv=>whnf
   refine .mk (by simp only[okI] at *; omega) ?_;refine⟨i+1,⟨by omega,?_⟩,by omega,⟨⟨_,rfl,rfl⟩,trivial⟩,?_,rfl⟩
   ·rw[o7 (d:=default) hi' hall]; exact h8
   ·repeat' (first|exact trivial|exact⟨_,rfl,rfl⟩|constructor)
 have hi':p.dL.length<=i:=by simpa using h7
 rw[bm hi'] at hall;clear hi hi' h7;refine ah.pure (S.jD p.initial p.states.length false (by omega) ⟨by omega,by omega⟩) rfl ?_;refine⟨fun h7=>?_,fun h7=>?_⟩
 ·replace h7:=XJ h7
  have:BM p=jP p.initial p.states.length:=fN h7
  exact ay.int (by rw[bV,h1,h2,h3,h4,h5,h6,hall,this,show(jP p.initial p.states.length !=0)=true by simpa using h7]; rfl)
 replace h7:=II h7;refine⟨fun h8=>?_,fun h8=>?_⟩
 ·replace h8:((p.initial.length:Int)==0)=true:=h8
  have:BM p=1:=by rw[BM,h7,h8]; rfl
  exact ay.int (by rw[bV,h1,h2,h3,h4,h5,h6,hall,this]; rfl)
 replace h8:((p.initial.length:Int)==0)=false:=h8;refine ah.pure (S.jD p.leader p.states.length false (by omega) ⟨by omega,by omega⟩) rfl ?_;refine⟨fun h9=>?_,fun h9=>?_⟩
 ·replace h9:=XJ h9
  have:BM p=jP p.leader p.states.length:=by rw[BM,h7,h8]; exact fN h9
  exact ay.int (by rw[bV,h1,h2,h3,h4,h5,h6,hall,this,show(jP p.leader p.states.length !=0)=true by simpa using h9]; rfl)
 replace h9:=II h9;have h10:BM p=0:=by rw[BM,h7,h8,h9]; rfl
 refine aG.same [1] (fun i:Nat=>[(8,.int i)]) (fun i=>i<=p.rules.length/\Hq p=bP (((List.range p.rules.length).drop i).map (iW p))) (fun i=>p.rules.length-i) 0 rfl (by decide) rfl (fun _=>rfl) ⟨by omega,by simp[Hq]⟩ ⟨⟨_,rfl,rfl⟩,trivial⟩ ?_;refine⟨rfl,?_⟩;rintro i ⟨hi,hr⟩;refine⟨fun h11=>?_,fun h11=>?_⟩
 ·have hi':i<p.rules.length:=by simpa using h11
  rw[Qp hi'] at hr;simp only[bP] at hr;refine ah.pure (S.adb p i hi' hp) rfl ?_;refine⟨fun h12=>?_,fun h12=>?_⟩
  ·conv=>whnf
   have adz:iW p i≠0:=XJ h12;rw[bB adz] at hr;exact ay.int (by rw[bV,h1,h2,h3,h4,h5,h6,hall,h10,hr,show(iW p i !=0)=true from h12]; rfl)
  ·conv=>whnf
   refine .mk (by simp only[okI] at *; omega) ?_;conv=>whnf
   have adz:iW p i=0:=II h12;rw[bc adz] at hr;refine⟨i+1,⟨by omega,hr⟩,by omega,⟨⟨_,rfl,rfl⟩,trivial⟩,?_,rfl⟩;repeat' (first|exact trivial|exact⟨_,rfl,rfl⟩|constructor)
 have hi':p.rules.length<=i:=by simpa using h11
 rw[cJ (by simpa using hi')] at hr;refine ah.pure (S.qH p hp) rfl ?_;refine⟨fun h12=>?_,fun h12=>?_⟩
 ·conv=>whnf
  exact ay.int (by rw[bV,h1,h2,h3,h4,h5,h6,hall,h10,hr,show decide (((Dk p.rules).length:Int)>3)=true from h12]; rfl)
 ·conv=>whnf
  exact ay.int (by rw[bV,h1,h2,h3,h4,h5,h6,hall,h10,hr,show decide (((Dk p.rules).length:Int)>3)=false from h12]; rfl)
end Go.Proofs.YtdloaandiobgdaaGreatDoor
namespace Go.Proofs.YtdloaandiobgdaaGreatDoor
open Go.Ab Go.Proofs
set_option maxRecDepth 100000
theorem aip{x:Int}:(decide (x<0)||decide (1048576<x))= !(Ez x):=by
 unfold Ez; rw[cR]; simp
def Oa(p:aF):Int:=bif bV p !=0 then bV p else bif !(kS p).cover&& !(kS p).monadic then 7 else 0
def uz(p:aF)(e:Elem):Bool:=((((e.counts.length:Int) !=p.states.length)|| !(e.counts.all Ez))||decide (e.value<0))||decide (e.value>=max 1 (p.values.length:Int))
def Rk(p:aF)(e:Elem):Int:=bif Oa p !=0 then Oa p else fA (uz p e) 1
theorem S.gZ(p:aF)(e:Elem)(hp:dW p)(he:e.counts.length<2^30):ak Tryz.prog 10 [.dat (.fM p),.dat (.elem e)] (.int (fA (uz p e) 1)):=by
 have g1:=hp.states;have g3:=hp.values;refine ak.of Bd.gZ (by simp) rfl rfl ?_;repeat(refine VC.mk id ?_)
 refine ah.iJ (fun _=>S.kG e.counts false (by omega)) rfl ?_;repeat(refine VC.mk (by first|exact id|exact fun h=>⟨h,h⟩|(intro h; rw[h]; rfl)) ?_)
 refine⟨fun h1=>?_,fun h1=>?_⟩
 ·conv=>whnf
  exact ay.int (by rw[show uz p e=true from h1]; rfl)
 ·conv=>whnf
  exact ay.int (by rw[show uz p e=false from h1]; rfl)
end Go.Proofs.YtdloaandiobgdaaGreatDoor
