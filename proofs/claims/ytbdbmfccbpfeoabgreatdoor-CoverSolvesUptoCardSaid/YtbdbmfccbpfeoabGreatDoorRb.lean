/-
 The two programs' rules for a protocol's rules say the same. No condition.
-/
import Derived.Test.YtbdbmfccbpfeoabGreatDoorRa
import Derived.Test.YtbdbmfccbpfeoabGreatDoorLg
namespace Go.Proofs.YtbdbmfccbpfeoabGreatDoor
open Go.Ab Go.Proofs
theorem xq{x n:Int}:(!(iF x 0 (n-1)))=pR x n:=by rw[qE,eL]
theorem vals_eq(p:aI)(r:Rule):BK p r=((decide (r.read< -1)||decide (r.read>=p.values.length))||(decide (r.write< -1)||decide (r.write>=p.values.length))):=by
 simp only[BK,xq,pR];rw[cK]; simp; omega
theorem adb(a b:Bool)(v:Int)(r:List Int)(h:v≠0):bC (dR (a||b) v::r)=bC (dR a v::dR b v::r):=by
 cases a<;>cases b<;>simp[dR,bC,h]
theorem Rn(p:aI)(l:List BP)(r:List Int):bC (yZ p l::r)=bC (kK p l::dR (decide ((l.length:Int)>2)) 4::r):=by
 by_cases h:kK p l=0
 ·rw[show yZ p l=dR (decide ((l.length:Int)>2)) 4 from bk h,h]; rfl
 ·rw[show yZ p l=kK p l from bX h,fN h,fN h]
theorem Xm{c d:Bool}:(bif c then true else d)=(c||d):=by cases c<;>rfl
theorem len_nil{α:Type}{l:List α}(h:decide ((l.length:Int)>0)=false):l=[]:=by
 cases l with
 |nil=>rfl
 |cons a r=>simp at h
theorem Om{r:Rule}{t:Int}(h:mO r t=false) :
  (r.kind≠1->r.guards=[]/\r.ex=[]/\r.all=[]/\r.send=[])/\(r.kind≠1->r.kind≠2->r.kind≠3->r.read= -1/\r.write= -1) /\
  (r.kind≠3->r.response=[])/\(r.kind≠5->r.direction=0)/\(r.kind≠4->r.pos=0/\r.left=[]/\r.right=[])/\(¬(r.kind=4/\t=4)->r.parent=[]):=by
 simp only[mO,Xm,bm] at h;obtain⟨h1,h2,h3,⟨h4,h5⟩,h6,h7⟩:=h;refine⟨fun k=>?_,fun k1 k2 k3=>?_,fun k=>?_,fun k=>?_,fun k=>?_,fun k=>?_⟩
 ·simp only[bq.2 k,f9,cw,bm] at h1;exact⟨len_nil h1.1.1.1,len_nil h1.1.1.2,len_nil h1.1.2,len_nil h1.2⟩
 ·simp only[bq.2 k1,bq.2 k2,bq.2 k3,f9,cw,bm] at h2;exact⟨Vr h2.1,Vr h2.2⟩
 ·simp only[bq.2 k,f9,cw] at h4;exact len_nil h4
 ·simp only[bq.2 k,f9,cw] at h5;exact Vr h5
 ·simp only[bq.2 k,f9,cw,bm] at h6;exact⟨Vr h6.1.1,len_nil h6.1.2,len_nil h6.2⟩
 ·refine len_nil ?_;rw[cC] at h7;rcases h7 with h7|h7
  ·exact h7
  ·simp only[du,aD,bv] at h7;exact absurd h7 k
theorem kind_eq{r:Rule}{t:Int}:((!(iF r.kind 1 5)||(decide (r.kind<=3) !=(t==1)))||mO r t)=(!(vX r.kind t)||kY r t):=by
 by_cases hk:1<=r.kind/\r.kind<=5
 ·rw[Cb hk]
  congr 1
  have hk':r.kind=1\/r.kind=2\/r.kind=3\/r.kind=4\/r.kind=5:=by omega
  rcases hk' with e|e|e|e|e<;>rw[e]<;>cases ht:(t==1)<;>simp[iF,vX,ht]
 ·have h1:iF r.kind 1 5=false:=by rw[iF,cC]; simp; omega
  have h2:vX r.kind t=false:=by
   have:r.kind≠1/\r.kind≠2/\r.kind≠3/\r.kind≠4/\r.kind≠5:=by omega
   obtain⟨a,b,c,d,e⟩:=this;simp[vX,a,b,c,d,e]
  rw[h1,h2]; rfl
theorem J5(p:aI)(r:Rule):(yC p r !=0)=(pR r.fr p.states.length||pR r.to p.states.length):=by
 simp only[yC,dh];cases pR r.fr p.states.length<;>cases pR r.to p.states.length<;>rfl
theorem ag0(p:aI)(r:Rule)(h:(yC p r !=0)=true):yC p r=5:=by
 rw[J5] at h;simp only[yC,dh];revert h;cases pR r.fr p.states.length<;>cases pR r.to p.states.length<;>intro h<;>first|rfl|cases h
theorem DW(n:Int):jf [] n=0:=rfl
theorem aax(x:Int):bC [x,0,0,0,0,0,0]=bC [x]:=by
 simp only[bC]; simp
theorem EP{a:Int}{X Y:List Int}(h:bC X=bC Y):bC (a::X)=bC (a::Y):=by simp only[bC,h]
theorem Xf(x:Int):bC [x,0,0,0,0,0,0,0]=bC [x]:=by
 simp only[bC]; simp
theorem Xg(x:Int):bC [x,0,0]=bC [x]:=by
 simp only[bC]; simp
theorem NM(p:aI)(r:Rule):bC [dR (BK p r) 5,0,0,0,0,0,0,0]=bC [jV p r.read,jV p r.write]:=by
 rw[vals_eq,adb _ _ _ _ (by decide)];exact EP (Xf _)
theorem ade(p:aI)(i:Nat):Am p i=gZ p i:=by
 simp only[Am,gZ,uo,sN];generalize p.rules.getD i default=r;cases hv:validName r.name with
 |false=>rfl
 |true =>
 cases ha:(p.rules.take i).any (fun x=>x.name==r.name) with
 |true=>rfl
 |false =>
 simp only[JO,kind_eq,Bool.not_true,fc,bO];cases hk:(!(vX r.kind p.topology)||kY r p.topology) with
 |true=>rfl
 |false =>
 have hk2:=hk;rw[<- kind_eq,bm,bm,du] at hk2;obtain⟨⟨k1,_⟩,k2⟩:=hk2;obtain⟨u1,u2,u3,u4,u5,u6⟩:=Om k2;have hk':r.kind=1\/r.kind=2\/r.kind=3\/r.kind=4\/r.kind=5:=by
  simp only[iF,aD,ag] at k1; omega
 cases he:(yC p r !=0) with
 |true =>
  rw[ag0 p r he];rw[J5] at he;simp only[JM,xq,he]; rfl
 |false =>
 rw[J5] at he;simp only[JM,xq,he,cr,bO];rcases hk' with e|e|e|e|e
 ·have a5:=u5 (by omega);have m4:FU p r=false:=by simp[FU,e]
  have d1:FV p r=false:=by simp[FV,e]
  have d2:FW p r=false:=by simp[FW,e]
  simp only[iK,m4,d1,d2,a5.2.1,a5.2.2,u6 (by omega),e,DW,Int.reduceBEq,Bool.or_self,Bool.false_and,bO,bS];rw[Rn];refine EP (EP (EP (EP ?_)));rw[vals_eq,adb _ _ _ _ (by decide)];refine EP (EP ?_);exact aax _
 ·obtain⟨g1,g2,g3,g4⟩:=u1 (by omega);have a5:=u5 (by omega);have m4:FU p r=false:=by simp[FU,e]
  have d1:FV p r=false:=by simp[FV,e]
  have d2:FW p r=false:=by simp[FW,e]
  simp only[iK,m4,d1,d2,g1,g2,g3,g4,a5.2.1,a5.2.2,u6 (by omega),e,DW,Int.reduceBEq,fc,cw,bO,bS,dh];cases pR r.jo p.states.length with
  |true=>rfl
  |false =>
   cases pR r.Ap p.states.length with
   |true=>rfl
   |false=>exact NM p r
 ·obtain⟨g1,g2,g3,g4⟩:=u1 (by omega);have a5:=u5 (by omega);have m4:FU p r=false:=by simp[FU,e]
  have d1:FV p r=false:=by simp[FV,e]
  have d2:FW p r=false:=by simp[FW,e]
  simp only[iK,m4,d1,d2,g1,g2,g3,g4,a5.2.1,a5.2.2,u6 (by omega),e,DW,Int.reduceBEq,Bool.or_self,Bool.false_and,bO,bS,F7];cases ((r.response.length:Int) !=p.states.length) with
  |true=>rfl
  |false =>
   simp only[bO];by_cases hz:ru r.response p.states.length=0
   ·rw[hz]; exact NM p r
   ·rw[show(ru r.response p.states.length !=0)=true by simpa using hz,fN hz]; rfl
 ·obtain⟨g1,g2,g3,g4⟩:=u1 (by omega);obtain⟨v1,v2⟩:=u2 (by omega) (by omega) (by omega);have m4:FU p r=adf p r:=by
   simp only[FU,adf,e,pV]; rfl
  have d1:FV p r=false:=by simp[FV,e]
  have d2:FW p r=false:=by simp[FW,e]
  have vv:BK p r=false:=by simp[BK,v1,v2]
  simp only[iK,m4,d1,d2,vv,g1,g2,g3,g4,e,DW,Int.reduceBEq,Bool.or_self,Bool.false_and,bO,bS];exact EP (EP (EP (Xg _)))
 ·obtain⟨g1,g2,g3,g4⟩:=u1 (by omega);obtain⟨v1,v2⟩:=u2 (by omega) (by omega) (by omega);have a5:=u5 (by omega);have m4:FU p r=false:=by simp[FU,e]
  have vv:BK p r=false:=by simp[BK,v1,v2]
  have d1:FV p r=((p.topology==4)&&(decide (r.direction<3)||decide (r.direction>4))):=by
   simp only[FV,e,pV]; rfl
  have d2:FW p r=(!(p.topology==4)&&(decide (r.direction<1)||decide (r.direction>2))):=by
   simp only[FW,e,pV]; rfl
  simp only[iK,m4,d1,d2,vv,g1,g2,g3,g4,a5.2.1,a5.2.2,u6 (by omega),e,DW,Int.reduceBEq,Bool.or_true,cw,bO,dh];cases pR r.jo p.states.length with
  |true=>cases (p.topology==4)<;>rfl
  |false =>
   cases pR r.Ap p.states.length with
   |true=>cases (p.topology==4)<;>rfl
   |false =>
    cases (p.topology==4) with
    |true=>cases (decide (r.direction<3)||decide (r.direction>4))<;>rfl
    |false=>cases (decide (r.direction<1)||decide (r.direction>2))<;>rfl
theorem adg{p:aI}:(!(iF p.topology 1 4)|| !(iF p.fault 0 3))=vV p:=by
 simp only[pV,vV,Bool.or_assoc]
theorem S.aay(p:aI)(i:Nat)(hi:i<p.rules.length)(hp:dU p):aj Tryz.prog 120 [.dat (.fQ p),.int i] (.int (gZ p i)):=by
 rw[<- ade]; exact S.DV p i hi hp
theorem ah6{h:Hz}{j:Nat}{Z:Nat->Prop}{l:List Str}(hz:Z j)(q:h.get j=some (.row 9 0 (.strs l) [])):T.sub Z h.ay (V.row 0 false (.strs l)).aH (V.own j).aH:=by
 show T.sub Z h.ay (.sl 0 false (l.map eS)) (.own j);simp only[T.sub];refine⟨trivial,hz,?_,by decide,9,?_⟩
 ·rw[gq]; intro t ht; obtain⟨x,_,rfl⟩:=av.1 ht; rfl
 ·have:=aO q;rw[this]; simp[OV.au,Rw.aU,V.aU]
theorem S.pX(p:aI)(hp:dU p):aj Tryz.prog 88 [.dat (.fQ p)] (.int (bJ p)):=by
 have g1:=hp.states; have g2:=hp.messages; have g3:=hp.values; have g4:=hp.cu; have g5:=hp.initial; have g6:=hp.leader; have g7:=hp.rules;refine aj.of Bd.pX (by simp) rfl rfl ?_;refine ah.pure (S.jR p.name) rfl ?_;refine⟨fun h1=>?_,fun h1=>?_⟩
 ·conv=>whnf
  exact ak.int (by rw[bJ,h1]; rfl)
 refine ah.pure (S.aY p.topology 1 4) rfl ?_;repeat(refine VC.mk id ?_)
 refine ah.gW (fun _=>S.aY p.fault 0 3) rfl ?_;repeat(refine VC.mk (by first|exact id|(intro h; rw[h]; rfl)) ?_)
 refine⟨fun h2=>?_,fun h2=>?_⟩
 ·conv=>whnf
  rw[adg] at h2;exact ak.int (by rw[bJ,h1,h2]; rfl)
 rw[adg] at h2;refine⟨fun h3=>?_,fun h3=>?_⟩
 ·conv=>whnf
  exact ak.int (by rw[bJ,h1,h2,show((p.states.length:Int)==0)=true from h3]; rfl)
 replace h3:((p.states.length:Int)==0)=false:=h3;repeat(refine VC.mk (by first|exact id|(intro h; rw[h]; rfl)) ?_)
 refine⟨fun h4=>?_,fun h4=>?_⟩
 ·conv=>whnf
  exact ak.int (by rw[bJ,h1,h2,h3,show xk p=true from h4]; rfl)
 replace h4:xk p=false:=h4;have h0:0<p.states.length:=by
  rcases Nat.eq_zero_or_pos p.states.length with e|e
  ·rw[e] at h3; exact absurd h3 (by decide)
  ·exact e
 have hlen:(allNames p).length<2^30:=by simp only[allNames,aM]; omega
 repeat(refine VC.mk (by simp only[jy,jK,Rw.len,aM]; omega) ?_)
 refine aA.fz 3 57 0 (.strs (allNames p)) rfl rfl (ah6 rfl rfl) ?_;refine aA.same [1,3] (fun i:Nat=>[(4,.int i)]) (fun i=>i<=(allNames p).length/\(List.range i).any (Ro (allNames p))=false) (fun i=>(allNames p).length-i) 0 rfl (by decide) rfl (fun _=>rfl) ⟨ab _,rfl⟩ ⟨⟨_,rfl,rfl⟩,trivial⟩ ?_;refine⟨rfl,?_⟩;rintro i ⟨hi,hall⟩;refine⟨fun h5=>?_,fun h5=>?_⟩
 ·have hi':i<(allNames p).length:=by have:(i:Int)<((allNames p).length:Int):=ai h5; omega
  refine .mk (by simp only[Rw.rng] at *; omega) ?_;refine ah.pure (S.jR ((allNames p).getD i [])) rfl ?_;repeat(refine VC.mk (by first|exact id|exact fun h=>⟨h,h⟩|(intro h; (repeat' apply And.intro)<;>first|exact h|omega|(simp only[Rw.qM]; omega)|(simp only[Rw.rng]; omega))) ?_)
  refine ah.gW (fun _=>S.rZ ((allNames p).take i) ((allNames p).getD i []) _ (by rw[bE]; omega)) rfl ?_;refine .mk (by intro h; rw[h]; rfl) ?_;refine⟨fun h6=>?_,fun h6=>?_⟩
  ·conv=>whnf
   refine ak.int ?_;rw[bJ,h1,h2,h3,h4,show Bv p=2 by rw[Bv,zx.2 ⟨i,hi',h6⟩]; rfl]; rfl
  ·conv=>whnf
   refine .mk (by simp only[okI] at *; omega) ?_;refine⟨i+1,⟨by omega,?_⟩,by omega,⟨⟨_,rfl,rfl⟩,trivial⟩,?_,rfl⟩
   ·rw[ck,dq,hall];simp only[eJ,List.any_nil,fc,cr]; exact h6
   ·repeat' (first|exact trivial|exact⟨_,rfl,rfl⟩|constructor)
 have hi':(allNames p).length<=i:=by have: ¬ ((i:Int)<((allNames p).length:Int)):=aL h5; omega
 have e:i=(allNames p).length:=ep hi hi';subst e;have h5:Bv p=0:=by rw[Bv,hall]; rfl
 clear hi hall hi' hlen;repeat(refine VC.mk (by first|exact id|(intro h; rw[h]; rfl)|(intro h; simp[h]; done)|(intro h; simp_all; done)) ?_)
 refine⟨fun h6=>?_,fun h6=>?_⟩
 ·conv=>whnf
  exact ak.int (by rw[bJ,h1,h2,h3,h4,h5,show U9 p=true from h6]; rfl)
 replace h6:U9 p=false:=h6;refine aA.same [1] (fun i:Nat=>[(5,.int i)]) (fun i=>i<=p.cu.length/\(p.cu.take i).any (fun l=> !(U0 l))=false) (fun i=>p.cu.length-i) 0 rfl (by decide) rfl (fun _=>rfl) ⟨by omega,by simp⟩ ⟨⟨_,rfl,rfl⟩,trivial⟩ ?_;refine⟨rfl,?_⟩;rintro i ⟨hi,hall⟩;refine⟨fun h7=>?_,fun h7=>?_⟩
 ·have hi':i<p.cu.length:=by simpa using h7
  refine .mk (by simp only[Rw.rng] at *; omega) ?_;refine ah.pure (S.Bq (p.cu.getD i default)) rfl ?_;refine⟨fun h8=>?_,fun h8=>?_⟩
  ·conv=>whnf
   exact ak.int (by rw[bJ,h1,h2,h3,h4,h5,h6,iE (d:=default) hi' h8]; rfl)
  ·conv=>whnf
   refine .mk (by simp only[okI] at *; omega) ?_;refine⟨i+1,⟨by omega,?_⟩,by omega,⟨⟨_,rfl,rfl⟩,trivial⟩,?_,rfl⟩
   ·rw[jU (d:=default) hi' hall]; exact h8
   ·repeat' (first|exact trivial|exact⟨_,rfl,rfl⟩|constructor)
 have hi':p.cu.length<=i:=by simpa using h7
 rw[bB hi'] at hall;clear hi hi' h7;refine ah.pure (S.jg p.initial p.states.length false (by omega) ⟨by omega,by omega⟩) rfl ?_;refine⟨fun h7=>?_,fun h7=>?_⟩
 ·replace h7:=U8 h7
  have:zy p=jf p.initial p.states.length:=fN h7
  exact ak.int (by rw[bJ,h1,h2,h3,h4,h5,h6,hall,this,show(jf p.initial p.states.length !=0)=true by simpa using h7]; rfl)
 replace h7:=BM h7;refine⟨fun h8=>?_,fun h8=>?_⟩
 ·replace h8:((p.initial.length:Int)==0)=true:=h8
  have:zy p=1:=by rw[zy,h7,h8]; rfl
  exact ak.int (by rw[bJ,h1,h2,h3,h4,h5,h6,hall,this]; rfl)
 replace h8:((p.initial.length:Int)==0)=false:=h8;refine ah.pure (S.jg p.leader p.states.length false (by omega) ⟨by omega,by omega⟩) rfl ?_;refine⟨fun h9=>?_,fun h9=>?_⟩
 ·replace h9:=U8 h9
  have:zy p=jf p.leader p.states.length:=by rw[zy,h7,h8]; exact fN h9
  exact ak.int (by rw[bJ,h1,h2,h3,h4,h5,h6,hall,this,show(jf p.leader p.states.length !=0)=true by simpa using h9]; rfl)
 replace h9:=BM h9;have h10:zy p=0:=by rw[zy,h7,h8,h9]; rfl
 refine aA.same [1] (fun i:Nat=>[(8,.int i)]) (fun i=>i<=p.rules.length/\ER p=bC (((List.range p.rules.length).drop i).map (gZ p))) (fun i=>p.rules.length-i) 0 rfl (by decide) rfl (fun _=>rfl) ⟨by omega,by simp[ER]⟩ ⟨⟨_,rfl,rfl⟩,trivial⟩ ?_;refine⟨rfl,?_⟩;rintro i ⟨hi,hr⟩;refine⟨fun h11=>?_,fun h11=>?_⟩
 ·have hi':i<p.rules.length:=by simpa using h11
  rw[NP hi'] at hr;simp only[bC] at hr;refine ah.pure (S.aay p i hi' hp) rfl ?_;refine⟨fun h12=>?_,fun h12=>?_⟩
  ·conv=>whnf
   have aaK:gZ p i≠0:=U8 h12;rw[bX aaK] at hr;exact ak.int (by rw[bJ,h1,h2,h3,h4,h5,h6,hall,h10,hr,show(gZ p i !=0)=true from h12]; rfl)
  ·conv=>whnf
   refine .mk (by simp only[okI] at *; omega) ?_;conv=>whnf
   have aaK:gZ p i=0:=BM h12;rw[bk aaK] at hr;refine⟨i+1,⟨by omega,hr⟩,by omega,⟨⟨_,rfl,rfl⟩,trivial⟩,?_,rfl⟩;repeat' (first|exact trivial|exact⟨_,rfl,rfl⟩|constructor)
 have hi':p.rules.length<=i:=by simpa using h11
 rw[cI (by simpa using hi')] at hr;refine ah.pure (S.um p hp) rfl ?_;refine⟨fun h12=>?_,fun h12=>?_⟩
 ·conv=>whnf
  exact ak.int (by rw[bJ,h1,h2,h3,h4,h5,h6,hall,h10,hr,show decide (((Aj p.rules).length:Int)>3)=true from h12]; rfl)
 ·conv=>whnf
  exact ak.int (by rw[bJ,h1,h2,h3,h4,h5,h6,hall,h10,hr,show decide (((Aj p.rules).length:Int)>3)=false from h12]; rfl)
def Va(p:aI)(i:Nat):V:=.agg [.bool (((p.topology==1)&&((p.values.length:Int)==0))&&(p.rules.take i).foldl Vb true),.bool (sO p&& !((p.rules.take i).foldl RJ false)),.bool ((p.topology==2)||(p.topology==3)),.bool (p.topology==4),.bool (sO p&&decide ((p.states.length:Int)<=4))]
def badR(r:Rule):Bool:=r.kind !=1||decide (r.fr>=r.to)||decide ((r.ex.length:Int)>0)||decide ((r.all.length:Int)>0)
theorem afb{acc:Bool}{r:Rule}(h:badR r=true):Vb acc r=false:=by
 simp only[badR,cS,bne_iff_ne,ag] at h;simp only[Vb];rw[ek]; intro q;simp only[aD,bv,ag] at q;omega
theorem ag1{acc:Bool}{r:Rule}(h:badR r=false):Vb acc r=acc:=by
 simp only[badR,bm,bne_eq_false_iff_eq,am] at h;obtain⟨⟨⟨a,b⟩,c⟩,d⟩:=h;simp only[Vb];rw[show(r.kind==1)=true from bv.2 a,cJ (by omega),show((r.ex.length:Int)==0)=true from bv.2 (by omega),show((r.all.length:Int)==0)=true from bv.2 (by omega)];simp
theorem aiM(p:aI):Va p 0= .agg [.bool ((p.topology==1)&&((p.values.length:Int)==0)),.bool (sO p),.bool ((p.topology==2)||(p.topology==3)),.bool (p.topology==4),.bool (sO p&&decide ((p.states.length:Int)<=4))]:=by
 simp[Va]
theorem Iq(p:aI){i:Nat}(hi:i<p.rules.length):Va p (i+1) =
  .agg [.bool (bif badR (p.rules.getD i default) then false else((p.topology==1)&&((p.values.length:Int)==0))&&(p.rules.take i).foldl Vb true),
   .bool (bif decide (((p.rules.getD i default).all.length:Int)>0) then false else sO p&& !((p.rules.take i).foldl RJ false)),.bool ((p.topology==2)||(p.topology==3)),.bool (p.topology==4),.bool (sO p&&decide ((p.states.length:Int)<=4))]:=by
 simp only[Va,DU (d:=default) hi];cases hb:badR (p.rules.getD i default) with
 |true =>
  rw[afb hb,RJ];cases decide (((p.rules.getD i default).all.length:Int)>0)<;>simp
 |false =>
  rw[ag1 hb,RJ];cases decide (((p.rules.getD i default).all.length:Int)>0)<;>simp
theorem S.sQ(p:aI)(hp:dU p):aj Tryz.prog 62 [.dat (.fQ p)] (Jt p):=by
 have g1:=hp.states; have g2:=hp.messages; have g3:=hp.values; have g4:=hp.cu; have g7:=hp.rules;refine aj.of Bd.sQ (by simp) rfl rfl ?_;refine ah.pure (S.pX p hp) rfl ?_;refine⟨fun h1=>?_,fun h1=>?_⟩
 ·conv=>whnf
  refine ak.eqv ?_;rw[Jt,h1]; rfl
 have h1':bJ p=0:=BM h1;repeat(refine VC.mk (by first|exact id|(intro h; rw[h]; rfl)) ?_)
 refine aA.objs 100 [1,2,7] (fun i:Nat=>[(8,.int i)]) (fun i=>[(0,.box 27 11 (.dat (.fQ p))),(1,.box 98 6 (ah7 RN)),(58,.box 98 6 (Va p i))]) (fun i=>i<=p.rules.length) (fun i=>p.rules.length-i) 0 [0,1,58] rfl (by decide) (fun _=>rfl) (ab _) ?_ ?_ ?_
 ·exact(sR rfl)
 ·refine⟨dA rfl rfl,dA rfl rfl,⟨rfl,nofun,rfl,rfl,rfl,_,rfl,rfl,rfl,dJ.of_eq ?_⟩,trivial⟩;rw[aiM]; rfl
 refine⟨(sR rfl),rfl,?_⟩;rintro i hi;have g8:=hp.rule i;have g9:=g8.ex; have g10:=g8.all;refine⟨fun h3=>?_,fun h3=>?_⟩
 ·have hi':i<p.rules.length:=by simpa using h3
  repeat(refine VC.mk (by first|exact id|exact fun h=>⟨h,h⟩|(intro h; rw[h]; rfl)|(simp only[Rw.rng] at *; omega)) ?_)
  refine⟨fun h4=>?_,fun h4=>?_⟩
  ·replace h4:badR (p.rules.getD i default)=true:=h4;refine⟨fun h5=>?_,fun h5=>?_⟩
   ·replace h5:decide (((p.rules.getD i default).all.length:Int)>0)=true:=h5;refine .mk (by simp only[okI] at *; omega) ?_;refine⟨i+1,[0,1,58],by omega,by omega,(sR rfl),(sR rfl),dA rfl rfl,dA rfl rfl,⟨rfl,nofun,rfl,rfl,rfl,_,rfl,rfl,rfl,dJ.of_eq ?_⟩,trivial⟩;rw[Iq p hi',h4,h5]; rfl
   ·replace h5:decide (((p.rules.getD i default).all.length:Int)>0)=false:=h5;refine .mk (by simp only[okI] at *; omega) ?_;refine⟨i+1,[0,1,58],by omega,by omega,(sR rfl),(sR rfl),dA rfl rfl,dA rfl rfl,⟨rfl,nofun,rfl,rfl,rfl,_,rfl,rfl,rfl,dJ.of_eq ?_⟩,trivial⟩;rw[Iq p hi',h4,h5]; rfl
  ·replace h4:badR (p.rules.getD i default)=false:=h4;refine⟨fun h5=>?_,fun h5=>?_⟩
   ·replace h5:decide (((p.rules.getD i default).all.length:Int)>0)=true:=h5;refine .mk (by simp only[okI] at *; omega) ?_;refine⟨i+1,[0,1,58],by omega,by omega,(sR rfl),(sR rfl),dA rfl rfl,dA rfl rfl,⟨rfl,nofun,rfl,rfl,rfl,_,rfl,rfl,rfl,dJ.of_eq ?_⟩,trivial⟩;rw[Iq p hi',h4,h5]; rfl
   ·replace h5:decide (((p.rules.getD i default).all.length:Int)>0)=false:=h5;refine .mk (by simp only[okI] at *; omega) ?_;refine⟨i+1,[0,1,58],by omega,by omega,(sR rfl),(sR rfl),dA rfl rfl,dA rfl rfl,⟨rfl,nofun,rfl,rfl,rfl,_,rfl,rfl,rfl,dJ.of_eq ?_⟩,trivial⟩;rw[Iq p hi',h4,h5]; rfl
 have hi':p.rules.length<=i:=by simpa using h3
 have e:i=p.rules.length:=ep hi hi';subst e;refine ak.eqv ?_;rw[Jt,h1',kT];simp only[bp];rfl
theorem Ij{x:Int}:(decide (x<0)||decide (1048576<x))= !(zu x):=by
 unfold zu; rw[cK]; simp
def YD(p:aI):Int:=bif bJ p !=0 then bJ p else bif !(kT p).cover&& !(kT p).monadic then 7 else 0
def lI(p:aI)(e:Elem):Bool:=((((e.counts.length:Int) !=p.states.length)|| !(e.counts.all zu))||decide (e.value<0))||decide (e.value>=max 1 (p.values.length:Int))
def Xo(p:aI)(e:Elem):Int:=bif YD p !=0 then YD p else dR (lI p e) 1
theorem S.iZ(p:aI)(e:Elem)(hp:dU p)(he:e.counts.length<2^30):aj Tryz.prog 40 [.dat (.fQ p),.dat (.elem e)] (.int (dR (lI p e) 1)):=by
 have g1:=hp.states;have g3:=hp.values;refine aj.of Bd.iZ (by simp) rfl rfl ?_;repeat(refine VC.mk id ?_)
 refine ah.gW (fun _=>S.lq e.counts false (by omega)) rfl ?_;repeat(refine VC.mk (by first|exact id|exact fun h=>⟨h,h⟩|(intro h; rw[h]; rfl)) ?_)
 refine⟨fun h1=>?_,fun h1=>?_⟩
 ·conv=>whnf
  exact ak.int (by rw[show lI p e=true from h1]; rfl)
 ·conv=>whnf
  exact ak.int (by rw[show lI p e=false from h1]; rfl)
theorem Xh(p:aI)(e:Elem):lI p e=(((((e.counts.length:Int) !=p.states.length)||decide (e.value<0))||decide (e.value>=max 1 (p.values.length:Int)))|| !(e.counts.all zu)):=by
 unfold lI;cases ((e.counts.length:Int) !=p.states.length)<;>cases (e.counts.all zu)<;>cases decide (e.value<0)<;>cases decide (e.value>=max 1 (p.values.length:Int))<;>rfl
theorem S.DR(p:aI)(e:Elem)(hp:dU p)(he:e.counts.length<2^30):aj Tryz.prog 127 [.dat (.fQ p),.dat (.elem e)] (.bool (!(lI p e))):=by
 have g1:=hp.states;have g3:=hp.values;refine aj.of Bd.DR (by simp) rfl rfl ?_;repeat(refine VC.mk (by first|exact id|exact fun h=>⟨h,h⟩|(intro h; rw[h]; rfl)) ?_)
 refine⟨fun h1=>?_,fun h1=>?_⟩
 ·conv=>whnf
  refine ak.bool ?_;rw[Xh,show((((e.counts.length:Int) !=p.states.length)||decide (e.value<0))||decide (e.value>=max 1 (p.values.length:Int)))=true from h1]; rfl
 refine aA.same [2,3] (fun i:Nat=>[(5,.int i)]) (fun i=>i<=e.counts.length/\(e.counts.take i).all zu=true) (fun i=>e.counts.length-i) 0 rfl (by decide) rfl (fun _=>rfl) ⟨by omega,by simp⟩ ⟨⟨_,rfl,rfl⟩,trivial⟩ ?_;refine⟨rfl,?_⟩;rintro i ⟨hi,hall⟩;refine⟨fun h3=>?_,fun h3=>?_⟩
 ·have hi':i<e.counts.length:=by simpa using h3
  repeat(refine VC.mk (by first|exact id|(intro h; rw[h]; rfl)|(intro h; (repeat' apply And.intro)<;>first|exact h|omega|(simp only[Rw.qM]; omega)|(simp only[Rw.rng]; omega))|(simp only[Rw.rng] at *; omega)) ?_)
  refine⟨fun h4=>?_,fun h4=>?_⟩
  ·conv=>whnf
   refine ak.bool ?_;replace h4:(decide (e.counts.getD i 0<0)||decide (1048576<e.counts.getD i 0))=true:=h4;rw[Ij] at h4;rw[Xh,xw (d:=0) hi' (by simpa using h4)]; simp
  ·conv=>whnf
   refine .mk (by simp only[okI] at *; omega) ?_;conv=>whnf
   replace h4:(decide (e.counts.getD i 0<0)||decide (1048576<e.counts.getD i 0))=false:=h4;rw[Ij] at h4;refine⟨i+1,⟨by omega,?_⟩,by omega,⟨⟨_,rfl,rfl⟩,trivial⟩,?_,rfl⟩
   ·rw[zD (d:=0) hi' hall]; simpa using h4
   ·repeat' (first|exact trivial|exact⟨_,rfl,rfl⟩|constructor)
 ·have hi':e.counts.length<=i:=by simpa using h3
  rw[bB hi'] at hall;refine ak.bool ?_;rw[Xh,hall,show((((e.counts.length:Int) !=p.states.length)||decide (e.value<0))||decide (e.value>=max 1 (p.values.length:Int)))=false from h1]; rfl
theorem S.Ai(e:Elem)(hl:e.counts.length<2^40):aj Tryz.prog 16 [.dat (.elem e)] (.int (dL e)):=by
 refine aj.of Bd.Ai (by simp) rfl rfl ?_;refine⟨fun h1=>?_,fun h1=>?_⟩
 ·have h:6<e.counts.length:=by
   have:(6:Int)<e.counts.length:=ai h1
   omega
  exact ak.int (by rw[dL,bk h])
 have h: ¬ 6<e.counts.length:=by
  have: ¬ (6:Int)<e.counts.length:=aL h1
  omega
 refine aA.same [1] (fun i:Nat=>[(4,.int i),(3,.int (e.counts.take i).sum)]) (fun i=>i<=e.counts.length/\(e.counts.take i).all zu=true) (fun i=>e.counts.length-i) 0 rfl (by decide) rfl (fun _=>rfl) ⟨by omega,by simp⟩ ⟨⟨_,rfl,rfl⟩,⟨_,rfl,rfl⟩,trivial⟩ ?_;refine⟨rfl,?_⟩;rintro i ⟨hi,hall⟩;have hb:=zH hall;have hb':((e.counts.take i).length:Int)<=6:=by simp; omega
 refine⟨fun h3=>?_,fun h3=>?_⟩
 ·have hi':i<e.counts.length:=by simpa using h3
  have hs:=Sm hi';repeat(refine VC.mk (by first|exact id|(intro h; rw[h]; rfl)|(intro h; (repeat' apply And.intro)<;>first|exact h|omega|(simp only[Rw.qM]; omega)|(simp only[Rw.rng]; omega))|(simp only[Rw.rng] at *; omega)) ?_)
  refine⟨fun h4=>?_,fun h4=>?_⟩
  ·conv=>whnf
   replace h4:(decide (e.counts.getD i 0<0)||decide (1048576<e.counts.getD i 0))=true:=h4;rw[Ij] at h4;exact ak.int (by rw[dL,bX h,xw (d:=0) hi' (by simpa using h4)]; rfl)
  ·replace h4:(decide (e.counts.getD i 0<0)||decide (1048576<e.counts.getD i 0))=false:=h4;rw[Ij] at h4;have h4':zu (e.counts.getD i 0)=true:=by simpa using h4
   have afK:(e.counts.take (i+1)).all zu=true:=by rw[zD (d:=0) hi' hall]; exact h4'
   have hc:=zH afK;have hc':((e.counts.take (i+1)).length:Int)<=6:=by simp; omega
   repeat(refine VC.mk (by first|(simp only[okI,ap] at *; rw[<- hs]; omega)|(simp only[okI,Rw.rng] at *; omega)) ?_)
   refine⟨i+1,⟨by omega,afK⟩,by omega,⟨⟨_,rfl,rfl⟩,⟨_,rfl,?_⟩,trivial⟩,?_,rfl⟩
   ·rw[hs]; simp[V.aH,sK]
   ·repeat' (first|exact trivial|exact⟨_,rfl,rfl⟩|constructor)
 ·have hi':e.counts.length<=i:=by simpa using h3
  rw[bB hi'] at hall;rw[bB hi'];exact ak.int (by rw[dL,bX h,bk hall])
end Go.Proofs.YtbdbmfccbpfeoabGreatDoor
