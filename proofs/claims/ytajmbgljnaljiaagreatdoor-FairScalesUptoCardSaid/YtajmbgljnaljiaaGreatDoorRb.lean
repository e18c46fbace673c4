/-
 The two programs' rules for a protocol's rules say the same. No condition.
-/
import Derived.Test.YtajmbgljnaljiaaGreatDoorRa
import Derived.Test.YtajmbgljnaljiaaGreatDoorLg
namespace Go.Proofs.YtajmbgljnaljiaaGreatDoor
open Go.Ab Go.Proofs
theorem wV{x n:Int}:(!(iM x 0 (n-1)))=pY x n:=by rw[pq,Bool.not_not]
theorem vals_eq(p:aC)(r:Rule):Ba p r=((decide (r.read< -1)||decide (r.read>=p.values.length))||(decide (r.write< -1)||decide (r.write>=p.values.length))):=by
 simp only[Ba,wV,pY]
 rw[Bool.eq_iff_iff]; simp; omega
theorem aco(a b:Bool)(v:Int)(r:List Int)(h:v≠0):bF (fG (a||b) v::r)=bF (fG a v::fG b v::r):=by
 cases a<;>cases b<;>simp[fG,bF,h]
theorem Qg(p:aC)(l:List Bf)(r:List Int):bF (yu p l::r)=bF (kD p l::fG (decide ((l.length:Int)>2)) 4::r):=by
 by_cases h:kD p l=0
 ·rw[show yu p l=fG (decide ((l.length:Int)>2)) 4 from if_pos h,h]; rfl
 ·rw[show yu p l=kD p l from if_neg h,fN h,fN h]
theorem OE{c d:Bool}:(bif c then true else d)=(c||d):=by cases c<;>rfl
theorem len_nil{α:Type}{l:List α}(h:decide ((l.length:Int)>0)=false):l=[]:=by
 cases l with
 |nil=>rfl
 |cons a r=>simp at h
theorem NG{r:Rule}{t:Int}(h:kL r t=false) :
  (r.kind≠1->r.guards=[]/\r.ex=[]/\r.all=[]/\r.send=[])/\(r.kind≠1->r.kind≠2->r.kind≠3->r.read= -1/\r.write= -1) /\
  (r.kind≠3->r.response=[])/\(r.kind≠5->r.direction=0)/\(r.kind≠4->r.pos=0/\r.left=[]/\r.right=[])/\(¬(r.kind=4/\t=4)->r.parent=[]):=by
 simp only[kL,OE,Bool.or_eq_false_iff] at h
 obtain⟨h1,h2,h3,⟨h4,h5⟩,h6,h7⟩:=h
 refine⟨fun k=>?_,fun k1 k2 k3=>?_,fun k=>?_,fun k=>?_,fun k=>?_,fun k=>?_⟩
 ·simp only[beq_eq_false_iff_ne.2 k,Bool.not_false,Bool.true_and,Bool.or_eq_false_iff] at h1
  exact⟨len_nil h1.1.1.1,len_nil h1.1.1.2,len_nil h1.1.2,len_nil h1.2⟩
 ·simp only[beq_eq_false_iff_ne.2 k1,beq_eq_false_iff_ne.2 k2,beq_eq_false_iff_ne.2 k3,Bool.not_false,Bool.true_and,Bool.or_eq_false_iff] at h2
  exact⟨U8 h2.1,U8 h2.2⟩
 ·simp only[beq_eq_false_iff_ne.2 k,Bool.not_false,Bool.true_and] at h4
  exact len_nil h4
 ·simp only[beq_eq_false_iff_ne.2 k,Bool.not_false,Bool.true_and] at h5
  exact U8 h5
 ·simp only[beq_eq_false_iff_ne.2 k,Bool.not_false,Bool.true_and,Bool.or_eq_false_iff] at h6
  exact⟨U8 h6.1.1,len_nil h6.1.2,len_nil h6.2⟩
 ·refine len_nil ?_
  rw[Bool.and_eq_false_iff] at h7
  rcases h7 with h7|h7
  ·exact h7
  ·simp only[Bool.not_eq_false',Bool.and_eq_true,beq_iff_eq] at h7
   exact absurd h7 k
theorem kind_eq{r:Rule}{t:Int}:((!(iM r.kind 1 5)||(decide (r.kind<=3) !=(t==1)))||kL r t)=(!(uq r.kind t)||kS r t):=by
 by_cases hk:1<=r.kind/\r.kind<=5
 ·rw[wE hk]
  congr 1
  have hk':r.kind=1\/r.kind=2\/r.kind=3\/r.kind=4\/r.kind=5:=by omega
  rcases hk' with e|e|e|e|e<;>rw[e]<;>cases ht:(t==1)<;>simp[iM,uq,ht]
 ·have h1:iM r.kind 1 5=false:=by rw[iM,Bool.and_eq_false_iff]; simp; omega
  have h2:uq r.kind t=false:=by
   have:r.kind≠1/\r.kind≠2/\r.kind≠3/\r.kind≠4/\r.kind≠5:=by omega
   obtain⟨a,b,c,d,e⟩:=this
   simp[uq,a,b,c,d,e]
  rw[h1,h2]; rfl
theorem Jd(p:aC)(r:Rule):(xK p r !=0)=(pY r.fr p.states.length||pY r.to p.states.length):=by
 simp only[xK,dH]
 cases pY r.fr p.states.length<;>cases pY r.to p.states.length<;>rfl
theorem agj(p:aC)(r:Rule)(h:(xK p r !=0)=true):xK p r=5:=by
 rw[Jd] at h
 simp only[xK,dH]
 revert h
 cases pY r.fr p.states.length<;>cases pY r.to p.states.length<;>intro h<;>first|rfl|cases h
theorem Dc(n:Int):jv [] n=0:=rfl
theorem Zw(x:Int):bF [x,0,0,0,0,0,0]=bF [x]:=by
 simp only[bF]; simp
theorem Ee{a:Int}{X Y:List Int}(h:bF X=bF Y):bF (a::X)=bF (a::Y):=by simp only[bF,h]
theorem V9(x:Int):bF [x,0,0,0,0,0,0,0]=bF [x]:=by
 simp only[bF]; simp
theorem Wh(x:Int):bF [x,0,0]=bF [x]:=by
 simp only[bF]; simp
theorem LG(p:aC)(r:Rule):bF [fG (Ba p r) 5,0,0,0,0,0,0,0]=bF [jQ p r.read,jQ p r.write]:=by
 rw[vals_eq,aco _ _ _ _ (by decide)]
 exact Ee (V9 _)
theorem acp(p:aC)(i:Nat):zU p i=iC p i:=by
 simp only[zU,iC,sO,qw]
 generalize p.rules.getD i default=r
 cases hv:validName r.name with
 |false=>rfl
 |true =>
 cases ha:(p.rules.take i).any (fun x=>x.name==r.name) with
 |true=>rfl
 |false =>
 simp only[IJ,kind_eq,Bool.not_true,Bool.or_false,cond_false]
 cases hk:(!(uq r.kind p.topology)||kS r p.topology) with
 |true=>rfl
 |false =>
 have hk2:=hk
 rw[<- kind_eq,Bool.or_eq_false_iff,Bool.or_eq_false_iff,Bool.not_eq_false'] at hk2
 obtain⟨⟨k1,_⟩,k2⟩:=hk2
 obtain⟨u1,u2,u3,u4,u5,u6⟩:=NG k2
 have hk':r.kind=1\/r.kind=2\/r.kind=3\/r.kind=4\/r.kind=5:=by
  simp only[iM,Bool.and_eq_true,decide_eq_true_eq] at k1; omega
 cases he:(xK p r !=0) with
 |true =>
  rw[agj p r he]
  rw[Jd] at he
  simp only[II,wV,he]; rfl
 |false =>
 rw[Jd] at he
 simp only[II,wV,he,Bool.false_or,cond_false]
 rcases hk' with e|e|e|e|e
 ·have a5:=u5 (by omega)
  have m4:EU p r=false:=by simp[EU,e]
  have d1:EW p r=false:=by simp[EW,e]
  have d2:EX p r=false:=by simp[EX,e]
  simp only[iO,m4,d1,d2,a5.2.1,a5.2.2,u6 (by omega),e,Dc,Int.reduceBEq,Bool.or_self,Bool.false_and,cond_false,cond_true]
  rw[Qg]
  refine Ee (Ee (Ee (Ee ?_)))
  rw[vals_eq,aco _ _ _ _ (by decide)]
  refine Ee (Ee ?_)
  exact Zw _
 ·obtain⟨g1,g2,g3,g4⟩:=u1 (by omega)
  have a5:=u5 (by omega)
  have m4:EU p r=false:=by simp[EU,e]
  have d1:EW p r=false:=by simp[EW,e]
  have d2:EX p r=false:=by simp[EX,e]
  simp only[iO,m4,d1,d2,g1,g2,g3,g4,a5.2.1,a5.2.2,u6 (by omega),e,Dc,Int.reduceBEq,Bool.or_false,Bool.true_and,cond_false,cond_true,dH]
  cases pY r.fQ p.states.length with
  |true=>rfl
  |false =>
   cases pY r.Bj p.states.length with
   |true=>rfl
   |false=>exact LG p r
 ·obtain⟨g1,g2,g3,g4⟩:=u1 (by omega)
  have a5:=u5 (by omega)
  have m4:EU p r=false:=by simp[EU,e]
  have d1:EW p r=false:=by simp[EW,e]
  have d2:EX p r=false:=by simp[EX,e]
  simp only[iO,m4,d1,d2,g1,g2,g3,g4,a5.2.1,a5.2.2,u6 (by omega),e,Dc,Int.reduceBEq,Bool.or_self,Bool.false_and,cond_false,cond_true,FI]
  cases ((r.response.length:Int) !=p.states.length) with
  |true=>rfl
  |false =>
   simp only[cond_false]
   by_cases hz:qG r.response p.states.length=0
   ·rw[hz]; exact LG p r
   ·rw[show(qG r.response p.states.length !=0)=true by simpa using hz,fN hz]; rfl
 ·obtain⟨g1,g2,g3,g4⟩:=u1 (by omega)
  obtain⟨v1,v2⟩:=u2 (by omega) (by omega) (by omega)
  have m4:EU p r=acr p r:=by
   simp only[EU,acr,e,oW]; rfl
  have d1:EW p r=false:=by simp[EW,e]
  have d2:EX p r=false:=by simp[EX,e]
  have vv:Ba p r=false:=by simp[Ba,v1,v2]
  simp only[iO,m4,d1,d2,vv,g1,g2,g3,g4,e,Dc,Int.reduceBEq,Bool.or_self,Bool.false_and,cond_false,cond_true]
  exact Ee (Ee (Ee (Wh _)))
 ·obtain⟨g1,g2,g3,g4⟩:=u1 (by omega)
  obtain⟨v1,v2⟩:=u2 (by omega) (by omega) (by omega)
  have a5:=u5 (by omega)
  have m4:EU p r=false:=by simp[EU,e]
  have vv:Ba p r=false:=by simp[Ba,v1,v2]
  have d1:EW p r=((p.topology==4)&&(decide (r.direction<3)||decide (r.direction>4))):=by
   simp only[EW,e,oW]; rfl
  have d2:EX p r=(!(p.topology==4)&&(decide (r.direction<1)||decide (r.direction>2))):=by
   simp only[EX,e,oW]; rfl
  simp only[iO,m4,d1,d2,vv,g1,g2,g3,g4,a5.2.1,a5.2.2,u6 (by omega),e,Dc,Int.reduceBEq,Bool.or_true,Bool.true_and,cond_false,dH]
  cases pY r.fQ p.states.length with
  |true=>cases (p.topology==4)<;>rfl
  |false =>
   cases pY r.Bj p.states.length with
   |true=>cases (p.topology==4)<;>rfl
   |false =>
    cases (p.topology==4) with
    |true=>cases (decide (r.direction<3)||decide (r.direction>4))<;>rfl
    |false=>cases (decide (r.direction<1)||decide (r.direction>2))<;>rfl
theorem acs{p:aC}:(!(iM p.topology 1 4)|| !(iM p.fault 0 3))=uY p:=by
 simp only[oW,uY,Bool.or_assoc]
theorem S.Zx(p:aC)(i:Nat)(hi:i<p.rules.length)(hp:dL p):aj Tryz.prog 143 [.dat (.iE p),.int i] (.int (iC p i)):=by
 rw[<- acp]; exact S.C9 p i hi hp
theorem ahz{h:Hz}{j:Nat}{Z:Nat->Prop}{l:List Str}(hz:Z j)(q:h.get j=some (.row 9 0 (.strs l) [])):T.sub Z h.au (V.row 0 false (.strs l)).aI (V.own j).aI:=by
 show T.sub Z h.au (.sl 0 false (l.map eS)) (.own j)
 simp only[T.sub]
 refine⟨trivial,hz,?_,by decide,9,?_⟩
 ·rw[dR]; intro t ht; obtain⟨x,_,rfl⟩:=List.mem_map.1 ht; rfl
 ·have:=aO q
  rw[this]; simp[OV.ay,Rw.aS,V.aS]
theorem S.oZ(p:aC)(hp:dL p):aj Tryz.prog 111 [.dat (.iE p)] (.int (dw p)):=by
 have g1:=hp.states; have g2:=hp.messages; have g3:=hp.values; have g4:=hp.bQ; have g5:=hp.initial; have g6:=hp.leader; have g7:=hp.rules
 refine aj.of Bd.oZ (by simp) rfl rfl ?_
 conv=>whnf
 refine ah.pure (S.jC p.name) rfl ?_
 conv=>whnf
 refine⟨fun h1=>?_,fun h1=>?_⟩
 ·conv=>whnf
  exact ak.int (by rw[dw,h1]; rfl)
 conv=>whnf
 refine ah.pure (S.bg p.topology 1 4) rfl ?_
 conv=>whnf
 repeat(refine VC.mk id ?_; conv=>whnf)
 refine ah.dM (fun _=>S.bg p.fault 0 3) rfl ?_
 conv=>whnf
 repeat(refine VC.mk (by first|exact id|(intro h; rw[h]; rfl)) ?_; conv=>whnf)
 refine⟨fun h2=>?_,fun h2=>?_⟩
 ·conv=>whnf
  rw[acs] at h2
  exact ak.int (by rw[dw,h1,h2]; rfl)
 rw[acs] at h2
 conv=>whnf
 refine⟨fun h3=>?_,fun h3=>?_⟩
 ·conv=>whnf
  exact ak.int (by rw[dw,h1,h2,show((p.states.length:Int)==0)=true from h3]; rfl)
 replace h3:((p.states.length:Int)==0)=false:=h3
 conv=>whnf
 repeat(refine VC.mk (by first|exact id|(intro h; rw[h]; rfl)) ?_; conv=>whnf)
 refine⟨fun h4=>?_,fun h4=>?_⟩
 ·conv=>whnf
  exact ak.int (by rw[dw,h1,h2,h3,show wS p=true from h4]; rfl)
 replace h4:wS p=false:=h4
 have h0:0<p.states.length:=by
  rcases Nat.eq_zero_or_pos p.states.length with e|e
  ·rw[e] at h3; exact absurd h3 (by decide)
  ·exact e
 have hlen:(allNames p).length<2^30:=by simp only[allNames,List.length_append]; omega
 conv=>whnf
 repeat(refine VC.mk (by simp only[nG,nY,Rw.len,List.length_append]; omega) ?_; conv=>whnf)
 refine aB.fz 3 57 0 (.strs (allNames p)) rfl rfl (ahz rfl rfl) ?_
 conv=>whnf
 refine aB.same [1,3] (fun i:Nat=>[(4,.int i)]) (fun i=>i<=(allNames p).length/\(List.range i).any (Qh (allNames p))=false) (fun i=>(allNames p).length-i) 0 rfl (by decide) rfl (fun _=>rfl) ⟨Nat.zero_le _,rfl⟩ ⟨⟨_,rfl,rfl⟩,trivial⟩ ?_
 conv=>whnf
 refine⟨rfl,?_⟩
 rintro i ⟨hi,hall⟩
 conv=>whnf
 refine⟨fun h5=>?_,fun h5=>?_⟩
 ·have hi':i<(allNames p).length:=by have:(i:Int)<((allNames p).length:Int):=of_decide_eq_true h5; omega
  conv=>whnf
  refine .mk (by simp only[Rw.rng] at *; omega) ?_
  conv=>whnf
  refine ah.pure (S.jC ((allNames p).getD i [])) rfl ?_
  conv=>whnf
  repeat(refine VC.mk (by first|exact id|exact fun h=>⟨h,h⟩|(intro h; (repeat' apply And.intro)<;>first|exact h|omega|(simp only[Rw.nO]; omega)|(simp only[Rw.rng]; omega))) ?_; conv=>whnf)
  refine ah.dM (fun _=>S.qV ((allNames p).take i) ((allNames p).getD i []) _ (by rw[List.length_take]; omega)) rfl ?_
  conv=>whnf
  refine .mk (by intro h; rw[h]; rfl) ?_
  conv=>whnf
  refine⟨fun h6=>?_,fun h6=>?_⟩
  ·conv=>whnf
   refine ak.int ?_
   rw[dw,h1,h2,h3,h4,show AL p=2 by rw[AL,oO.2 ⟨i,hi',h6⟩]; rfl]; rfl
  ·conv=>whnf
   refine .mk (by simp only[okI] at *; omega) ?_
   conv=>whnf
   refine⟨i+1,⟨by omega,?_⟩,by omega,⟨⟨_,rfl,rfl⟩,trivial⟩,?_,rfl⟩
   ·rw[List.range_succ,List.any_append,hall]
    simp only[List.any_cons,List.any_nil,Bool.or_false,Bool.false_or]; exact h6
   ·repeat' (first|exact trivial|exact⟨_,rfl,rfl⟩|constructor)
 have hi':(allNames p).length<=i:=by have: ¬ ((i:Int)<((allNames p).length:Int)):=of_decide_eq_false h5; omega
 have e:i=(allNames p).length:=Nat.le_antisymm hi hi'
 subst e
 have h5:AL p=0:=by rw[AL,hall]; rfl
 clear hi hall hi' hlen
 conv=>whnf
 repeat(refine VC.mk (by first|exact id|(intro h; rw[h]; rfl)|(intro h; simp[h]; done)|(intro h; simp_all; done)) ?_; conv=>whnf)
 refine⟨fun h6=>?_,fun h6=>?_⟩
 ·conv=>whnf
  exact ak.int (by rw[dw,h1,h2,h3,h4,h5,show TY p=true from h6]; rfl)
 replace h6:TY p=false:=h6
 conv=>whnf
 refine aB.same [1] (fun i:Nat=>[(5,.int i)]) (fun i=>i<=p.bQ.length/\(p.bQ.take i).any (fun l=> !(TQ l))=false) (fun i=>p.bQ.length-i) 0 rfl (by decide) rfl (fun _=>rfl) ⟨by omega,by simp⟩ ⟨⟨_,rfl,rfl⟩,trivial⟩ ?_
 conv=>whnf
 refine⟨rfl,?_⟩
 rintro i ⟨hi,hall⟩
 conv=>whnf
 refine⟨fun h7=>?_,fun h7=>?_⟩
 ·have hi':i<p.bQ.length:=by simpa using h7
  conv=>whnf
  refine .mk (by simp only[Rw.rng] at *; omega) ?_
  conv=>whnf
  refine ah.pure (S.AB (p.bQ.getD i default)) rfl ?_
  conv=>whnf
  refine⟨fun h8=>?_,fun h8=>?_⟩
  ·conv=>whnf
   exact ak.int (by rw[dw,h1,h2,h3,h4,h5,h6,iU (d:=default) hi' h8]; rfl)
  ·conv=>whnf
   refine .mk (by simp only[okI] at *; omega) ?_
   conv=>whnf
   refine⟨i+1,⟨by omega,?_⟩,by omega,⟨⟨_,rfl,rfl⟩,trivial⟩,?_,rfl⟩
   ·rw[kN (d:=default) hi' hall]; exact h8
   ·repeat' (first|exact trivial|exact⟨_,rfl,rfl⟩|constructor)
 have hi':p.bQ.length<=i:=by simpa using h7
 rw[List.take_of_length_le hi'] at hall
 clear hi hi' h7
 conv=>whnf
 refine ah.pure (S.iY p.initial p.states.length false (by omega) ⟨by omega,by omega⟩) rfl ?_
 conv=>whnf
 refine⟨fun h7=>?_,fun h7=>?_⟩
 ·replace h7:=TW h7
  have:zk p=jv p.initial p.states.length:=fN h7
  conv=>whnf
  exact ak.int (by rw[dw,h1,h2,h3,h4,h5,h6,hall,this,show(jv p.initial p.states.length !=0)=true by simpa using h7]; rfl)
 replace h7:=Ko h7
 conv=>whnf
 refine⟨fun h8=>?_,fun h8=>?_⟩
 ·replace h8:((p.initial.length:Int)==0)=true:=h8
  have:zk p=1:=by rw[zk,h7,h8]; rfl
  conv=>whnf
  exact ak.int (by rw[dw,h1,h2,h3,h4,h5,h6,hall,this]; rfl)
 replace h8:((p.initial.length:Int)==0)=false:=h8
 conv=>whnf
 refine ah.pure (S.iY p.leader p.states.length false (by omega) ⟨by omega,by omega⟩) rfl ?_
 conv=>whnf
 refine⟨fun h9=>?_,fun h9=>?_⟩
 ·replace h9:=TW h9
  have:zk p=jv p.leader p.states.length:=by rw[zk,h7,h8]; exact fN h9
  conv=>whnf
  exact ak.int (by rw[dw,h1,h2,h3,h4,h5,h6,hall,this,show(jv p.leader p.states.length !=0)=true by simpa using h9]; rfl)
 replace h9:=Ko h9
 have h10:zk p=0:=by rw[zk,h7,h8,h9]; rfl
 conv=>whnf
 refine aB.same [1] (fun i:Nat=>[(8,.int i)]) (fun i=>i<=p.rules.length/\Eu p=bF (((List.range p.rules.length).drop i).map (iC p))) (fun i=>p.rules.length-i) 0 rfl (by decide) rfl (fun _=>rfl) ⟨by omega,by simp[Eu]⟩ ⟨⟨_,rfl,rfl⟩,trivial⟩ ?_
 conv=>whnf
 refine⟨rfl,?_⟩
 rintro i ⟨hi,hr⟩
 conv=>whnf
 refine⟨fun h11=>?_,fun h11=>?_⟩
 ·have hi':i<p.rules.length:=by simpa using h11
  rw[LH hi'] at hr
  simp only[bF] at hr
  conv=>whnf
  refine ah.pure (S.Zx p i hi' hp) rfl ?_
  conv=>whnf
  refine⟨fun h12=>?_,fun h12=>?_⟩
  ·conv=>whnf
   have aa3:iC p i≠0:=TW h12
   rw[if_neg aa3] at hr
   exact ak.int (by rw[dw,h1,h2,h3,h4,h5,h6,hall,h10,hr,show(iC p i !=0)=true from h12]; rfl)
  ·conv=>whnf
   refine .mk (by simp only[okI] at *; omega) ?_
   conv=>whnf
   have aa3:iC p i=0:=Ko h12
   rw[if_pos aa3] at hr
   refine⟨i+1,⟨by omega,hr⟩,by omega,⟨⟨_,rfl,rfl⟩,trivial⟩,?_,rfl⟩
   repeat' (first|exact trivial|exact⟨_,rfl,rfl⟩|constructor)
 have hi':p.rules.length<=i:=by simpa using h11
 rw[List.drop_eq_nil_of_le (by simpa using hi')] at hr
 conv=>whnf
 refine ah.pure (S.sN p hp) rfl ?_
 conv=>whnf
 refine⟨fun h12=>?_,fun h12=>?_⟩
 ·conv=>whnf
  exact ak.int (by rw[dw,h1,h2,h3,h4,h5,h6,hall,h10,hr,show decide (((zS p.rules).length:Int)>3)=true from h12]; rfl)
 ·conv=>whnf
  exact ak.int (by rw[dw,h1,h2,h3,h4,h5,h6,hall,h10,hr,show decide (((zS p.rules).length:Int)>3)=false from h12]; rfl)
def Ua(p:aC)(i:Nat):V:=.agg [.bool (((p.topology==1)&&((p.values.length:Int)==0))&&(p.rules.take i).foldl Ub true),.bool (tK p&& !((p.rules.take i).foldl Zy false)),.bool ((p.topology==2)||(p.topology==3)),.bool (p.topology==4),.bool (tK p&&decide ((p.states.length:Int)<=4))]
def badR(r:Rule):Bool:=r.kind !=1||decide (r.fr>=r.to)||decide ((r.ex.length:Int)>0)||decide ((r.all.length:Int)>0)
theorem aeb{acc:Bool}{r:Rule}(h:badR r=true):Ub acc r=false:=by
 simp only[badR,Bool.or_eq_true,bne_iff_ne,decide_eq_true_eq] at h
 simp only[Ub]
 rw[Bool.eq_false_iff]; intro q
 simp only[Bool.and_eq_true,beq_iff_eq,decide_eq_true_eq] at q
 omega
theorem agk{acc:Bool}{r:Rule}(h:badR r=false):Ub acc r=acc:=by
 simp only[badR,Bool.or_eq_false_iff,bne_eq_false_iff_eq,decide_eq_false_iff_not] at h
 obtain⟨⟨⟨a,b⟩,c⟩,d⟩:=h
 simp only[Ub]
 rw[show(r.kind==1)=true from beq_iff_eq.2 a,decide_eq_true (by omega),show((r.ex.length:Int)==0)=true from beq_iff_eq.2 (by omega),show((r.all.length:Int)==0)=true from beq_iff_eq.2 (by omega)]
 simp
theorem ail(p:aC):Ua p 0= .agg [.bool ((p.topology==1)&&((p.values.length:Int)==0)),.bool (tK p),.bool ((p.topology==2)||(p.topology==3)),.bool (p.topology==4),.bool (tK p&&decide ((p.states.length:Int)<=4))]:=by
 simp[Ua]
theorem Gx(p:aC){i:Nat}(hi:i<p.rules.length):Ua p (i+1) =
  .agg [.bool (bif badR (p.rules.getD i default) then false else((p.topology==1)&&((p.values.length:Int)==0))&&(p.rules.take i).foldl Ub true),
   .bool (bif decide (((p.rules.getD i default).all.length:Int)>0) then false else tK p&& !((p.rules.take i).foldl Zy false)),.bool ((p.topology==2)||(p.topology==3)),.bool (p.topology==4),.bool (tK p&&decide ((p.states.length:Int)<=4))]:=by
 simp only[Ua,CZ (d:=default) hi]
 cases hb:badR (p.rules.getD i default) with
 |true =>
  rw[aeb hb,Zy]
  cases decide (((p.rules.getD i default).all.length:Int)>0)<;>simp
 |false =>
  rw[agk hb,Zy]
  cases decide (((p.rules.getD i default).all.length:Int)>0)<;>simp
theorem S.rD(p:aC)(hp:dL p):aj Tryz.prog 116 [.dat (.iE p)] (Ib p):=by
 have g1:=hp.states; have g2:=hp.messages; have g3:=hp.values; have g4:=hp.bQ; have g7:=hp.rules
 refine aj.of Bd.rD (by simp) rfl rfl ?_
 conv=>whnf
 refine ah.pure (S.oZ p hp) rfl ?_
 conv=>whnf
 refine⟨fun h1=>?_,fun h1=>?_⟩
 ·conv=>whnf
  refine ak.eqv ?_
  rw[Ib,h1]; rfl
 have h1':dw p=0:=Ko h1
 conv=>whnf
 repeat(refine VC.mk (by first|exact id|(intro h; rw[h]; rfl)) ?_; conv=>whnf)
 refine aB.objs 100 [1,2,7] (fun i:Nat=>[(8,.int i)]) (fun i=>[(0,.box 27 11 (.dat (.iE p))),(1,.box 136 6 (ahA Qp)),(58,.box 136 6 (Ua p i))]) (fun i=>i<=p.rules.length) (fun i=>p.rules.length-i) 0 [0,1,58] rfl (by decide) (fun _=>rfl) (Nat.zero_le _) ?_ ?_ ?_
 ·exact(sR rfl)
 ·refine⟨⟨rfl,nofun,rfl,rfl,rfl,_,rfl,rfl,rfl,bD.of_eq rfl⟩,⟨rfl,nofun,rfl,rfl,rfl,_,rfl,rfl,rfl,bD.of_eq rfl⟩,⟨rfl,nofun,rfl,rfl,rfl,_,rfl,rfl,rfl,bD.of_eq ?_⟩,trivial⟩
  rw[ail]; rfl
 conv=>whnf
 refine⟨(sR rfl),rfl,?_⟩
 rintro i hi
 have g8:=hp.rule i
 have g9:=g8.ex; have g10:=g8.all
 conv=>whnf
 refine⟨fun h3=>?_,fun h3=>?_⟩
 ·have hi':i<p.rules.length:=by simpa using h3
  conv=>whnf
  repeat(refine VC.mk (by first|exact id|exact fun h=>⟨h,h⟩|(intro h; rw[h]; rfl)|(simp only[Rw.rng] at *; omega)) ?_; conv=>whnf)
  refine⟨fun h4=>?_,fun h4=>?_⟩
  ·replace h4:badR (p.rules.getD i default)=true:=h4
   conv=>whnf
   refine⟨fun h5=>?_,fun h5=>?_⟩
   ·replace h5:decide (((p.rules.getD i default).all.length:Int)>0)=true:=h5
    conv=>whnf
    refine .mk (by simp only[okI] at *; omega) ?_
    conv=>whnf
    refine⟨i+1,[0,1,58],by omega,by omega,(sR rfl),(sR rfl),⟨rfl,nofun,rfl,rfl,rfl,_,rfl,rfl,rfl,bD.of_eq rfl⟩,⟨rfl,nofun,rfl,rfl,rfl,_,rfl,rfl,rfl,bD.of_eq rfl⟩,⟨rfl,nofun,rfl,rfl,rfl,_,rfl,rfl,rfl,bD.of_eq ?_⟩,trivial⟩
    rw[Gx p hi',h4,h5]; rfl
   ·replace h5:decide (((p.rules.getD i default).all.length:Int)>0)=false:=h5
    conv=>whnf
    refine .mk (by simp only[okI] at *; omega) ?_
    conv=>whnf
    refine⟨i+1,[0,1,58],by omega,by omega,(sR rfl),(sR rfl),⟨rfl,nofun,rfl,rfl,rfl,_,rfl,rfl,rfl,bD.of_eq rfl⟩,⟨rfl,nofun,rfl,rfl,rfl,_,rfl,rfl,rfl,bD.of_eq rfl⟩,⟨rfl,nofun,rfl,rfl,rfl,_,rfl,rfl,rfl,bD.of_eq ?_⟩,trivial⟩
    rw[Gx p hi',h4,h5]; rfl
  ·replace h4:badR (p.rules.getD i default)=false:=h4
   conv=>whnf
   refine⟨fun h5=>?_,fun h5=>?_⟩
   ·replace h5:decide (((p.rules.getD i default).all.length:Int)>0)=true:=h5
    conv=>whnf
    refine .mk (by simp only[okI] at *; omega) ?_
    conv=>whnf
    refine⟨i+1,[0,1,58],by omega,by omega,(sR rfl),(sR rfl),⟨rfl,nofun,rfl,rfl,rfl,_,rfl,rfl,rfl,bD.of_eq rfl⟩,⟨rfl,nofun,rfl,rfl,rfl,_,rfl,rfl,rfl,bD.of_eq rfl⟩,⟨rfl,nofun,rfl,rfl,rfl,_,rfl,rfl,rfl,bD.of_eq ?_⟩,trivial⟩
    rw[Gx p hi',h4,h5]; rfl
   ·replace h5:decide (((p.rules.getD i default).all.length:Int)>0)=false:=h5
    conv=>whnf
    refine .mk (by simp only[okI] at *; omega) ?_
    conv=>whnf
    refine⟨i+1,[0,1,58],by omega,by omega,(sR rfl),(sR rfl),⟨rfl,nofun,rfl,rfl,rfl,_,rfl,rfl,rfl,bD.of_eq rfl⟩,⟨rfl,nofun,rfl,rfl,rfl,_,rfl,rfl,rfl,bD.of_eq rfl⟩,⟨rfl,nofun,rfl,rfl,rfl,_,rfl,rfl,rfl,bD.of_eq ?_⟩,trivial⟩
    rw[Gx p hi',h4,h5]; rfl
 have hi':p.rules.length<=i:=by simpa using h3
 have e:i=p.rules.length:=Nat.le_antisymm hi hi'
 subst e
 conv=>whnf
 refine ak.eqv ?_
 rw[Ib,h1',oJ]
 simp only[List.take_length]
 rfl
theorem XG{x:Int}:(decide (x<0)||decide (1048576<x))= !(IK x):=by
 unfold IK; rw[Bool.eq_iff_iff]; simp
def Oz(p:aC):Int:=bif dw p !=0 then dw p else bif !(oJ p).cover&& !(oJ p).monadic then 7 else 0
def OA(p:aC)(e:Elem):Bool:=((((e.counts.length:Int) !=p.states.length)|| !(e.counts.all IK))||decide (e.value<0))||decide (e.value>=max 1 (p.values.length:Int))
def MK(p:aC)(e:Elem):Int:=bif Oz p !=0 then Oz p else fG (OA p e) 1
theorem ahB(p:aC):Oz p=bif ((dw p==0)&& !(bif dw p !=0 then Qp else oJ p).cover&& !(bif dw p !=0 then Qp else oJ p).monadic) then 7 else dw p:=by
 unfold Oz bne
 cases hz:dw p==0 with
 |true=>simp only[Bool.not_true,cond_false,Bool.true_and]; rw[show dw p=0 from beq_iff_eq.1 hz]
 |false=>rfl
theorem S.kT(p:aC)(hp:dL p):aj Tryz.prog 121 [.dat (.iE p)] (.int (Oz p)):=by
 refine aj.of Bd.kT (by simp) rfl rfl ?_
 conv=>whnf
 refine ah.pure (S.jf p hp) rfl ?_
 conv=>whnf
 repeat(refine VC.mk id ?_; conv=>whnf)
 refine⟨fun h1=>?_,fun h1=>?_⟩
 ·conv=>whnf
  exact ak.int (by rw[ahB,h1]; rfl)
 ·conv=>whnf
  exact ak.int (by rw[ahB,h1]; rfl)
theorem S.jV(p:aC)(e:Elem)(hp:dL p)(he:e.counts.length<2^30):aj Tryz.prog 122 [.dat (.iE p),.dat (.elem e)] (.int (fG (OA p e) 1)):=by
 have g1:=hp.states
 have g3:=hp.values
 refine aj.of Bd.jV (by simp) rfl rfl ?_
 conv=>whnf
 repeat(refine VC.mk id ?_; conv=>whnf)
 refine ah.dM (fun _=>S.mX e.counts false (by omega)) rfl ?_
 conv=>whnf
 repeat(refine VC.mk (by first|exact id|exact fun h=>⟨h,h⟩|(intro h; rw[h]; rfl)) ?_; conv=>whnf)
 refine⟨fun h1=>?_,fun h1=>?_⟩
 ·conv=>whnf
  exact ak.int (by rw[show OA p e=true from h1]; rfl)
 ·conv=>whnf
  exact ak.int (by rw[show OA p e=false from h1]; rfl)
theorem S.jK(p:aC)(e:Elem)(hp:dL p)(he:e.counts.length<2^30):aj Tryz.prog 89 [.dat (.iE p),.dat (.elem e)] (.int (MK p e)):=by
 refine aj.of Bd.jK (by simp) rfl rfl ?_
 conv=>whnf
 refine ah.pure (S.kT p hp) rfl ?_
 conv=>whnf
 refine⟨fun h1=>?_,fun h1=>?_⟩
 ·conv=>whnf
  exact ak.int (by rw[MK,h1]; rfl)
 ·conv=>whnf
  refine ah.pure (S.jV p e hp he) rfl ?_
  conv=>whnf
  exact ak.int (by rw[MK,h1]; rfl)
theorem S.yZ(e:Elem)(hl:e.counts.length<2^40):aj Tryz.prog 84 [.dat (.elem e)] (.int (xM e)):=by
 refine aj.of Bd.yZ (by simp) rfl rfl ?_
 conv=>whnf
 refine⟨fun h1=>?_,fun h1=>?_⟩
 ·have h:6<e.counts.length:=by
   have:(6:Int)<e.counts.length:=of_decide_eq_true h1
   omega
  conv=>whnf
  exact ak.int (by rw[xM,if_pos h])
 have h: ¬ 6<e.counts.length:=by
  have: ¬ (6:Int)<e.counts.length:=of_decide_eq_false h1
  omega
 conv=>whnf
 refine aB.same [1] (fun i:Nat=>[(4,.int i),(3,.int (e.counts.take i).sum)]) (fun i=>i<=e.counts.length/\(e.counts.take i).all IK=true) (fun i=>e.counts.length-i) 0 rfl (by decide) rfl (fun _=>rfl) ⟨by omega,by simp⟩ ⟨⟨_,rfl,rfl⟩,⟨_,rfl,rfl⟩,trivial⟩ ?_
 conv=>whnf
 refine⟨rfl,?_⟩
 rintro i ⟨hi,hall⟩
 have hb:=vJ hall
 have hb':((e.counts.take i).length:Int)<=6:=by simp; omega
 conv=>whnf
 refine⟨fun h3=>?_,fun h3=>?_⟩
 ·have hi':i<e.counts.length:=by simpa using h3
  have hs:=Jz hi'
  conv=>whnf
  repeat(refine VC.mk (by first|exact id|(intro h; rw[h]; rfl)|(intro h; (repeat' apply And.intro)<;>first|exact h|omega|(simp only[Rw.nO]; omega)|(simp only[Rw.rng]; omega))|(simp only[Rw.rng] at *; first|omega|(simp_all; done)|(simp_all; omega))) ?_; conv=>whnf)
  refine⟨fun h4=>?_,fun h4=>?_⟩
  ·conv=>whnf
   replace h4:(decide (e.counts.getD i 0<0)||decide (1048576<e.counts.getD i 0))=true:=h4
   rw[XG] at h4
   exact ak.int (by rw[xM,if_neg h,qy (d:=0) hi' (by simpa using h4)]; rfl)
  ·replace h4:(decide (e.counts.getD i 0<0)||decide (1048576<e.counts.getD i 0))=false:=h4
   rw[XG] at h4
   have h4':IK (e.counts.getD i 0)=true:=by simpa using h4
   have aeK:(e.counts.take (i+1)).all IK=true:=by rw[sV (d:=0) hi' hall]; exact h4'
   have hc:=vJ aeK
   have hc':((e.counts.take (i+1)).length:Int)<=6:=by simp; omega
   conv=>whnf
   repeat(refine VC.mk (by first|(simp only[okI,Int.toNat_natCast] at *; rw[<- hs]; omega)|(simp only[okI,Rw.rng] at *; first|omega|(simp_all; done)|(simp_all; omega))) ?_; conv=>whnf)
   refine⟨i+1,⟨by omega,aeK⟩,by omega,⟨⟨_,rfl,rfl⟩,⟨_,rfl,?_⟩,trivial⟩,?_,rfl⟩
   ·rw[hs]; simp[V.aI,rJ]
   ·repeat' (first|exact trivial|exact⟨_,rfl,rfl⟩|constructor)
 ·have hi':e.counts.length<=i:=by simpa using h3
  rw[List.take_of_length_le hi'] at hall
  rw[List.take_of_length_le hi']
  conv=>whnf
  exact ak.int (by rw[xM,if_neg h,if_pos hall])
end Go.Proofs.YtajmbgljnaljiaaGreatDoor
